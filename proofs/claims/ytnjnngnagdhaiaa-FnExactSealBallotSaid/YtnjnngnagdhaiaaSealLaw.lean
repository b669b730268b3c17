/- The law FnExactSealBallot, walked. -/
import Derived.Test.YtnjnngnagdhaiaaSealBR
namespace Go.Proofs.Ytnjnngnagdhaiaa
set_option linter.unusedVariables false
set_option maxRecDepth 100000
open Go.RowKit
set_option maxHeartbeats 4000000 in
theorem fnExactSealBallot_walk (w : World) (z0 : Int) (l0 : -9223372036854775808 ≤ z0) (l0' : z0 ≤ 9223372036854775807) (A1 : Option Addr) (n1 c1 : Nat) (zs1 : List Int) (h1 : Ints .i64 w A1 n1 c1 zs1) (A2 : Option Addr) (n2 c2 : Nat) (zs2 : List (List Int)) (h2 : Rws w A2 n2 c2 zs2) :
    Calls Try.prog 8 #[.int .i64 z0, .slice A1 n1 c1, .slice A2 n2 c2] w fun e w' => e = .returned (.bool true) ∧ Below w.heap.size w w' := by
  have s1 := h1.short
  have s2 := h2.short
  by_cases g1 : n1 ≤ 1048576
  · skip
    have e1 := h1.1
    subst e1
    have e2 := h2.1
    subst e2
    have SPC : Hid (∀ (W : World) (A : Option Addr) (c : Nat) (C : Option Addr) (f : Nat) (hk : Ints .i64 W A zs1.length c zs1) (hn : Rws W C zs2.length f zs2), Calls Try.prog 39 #[.int .i64 z0, .slice A zs1.length c, .slice C zs2.length f] W (GivesS3 (slV z0 zs1 zs2).1 (slV z0 zs1 zs2).2.1 (slV z0 zs1 zs2).2.2 (slB z0 zs1 zs2) W)) := fun W A c C f hk hn => specSealBallot_any z0 l0 l0' A _ c zs1 C _ f zs2 W hk hn
    have IMC : Hid (∀ (W : World) (A : Option Addr) (c : Nat) (C : Option Addr) (f : Nat) (hk : Ints .i64 W A zs1.length c zs1) (hn : Rws W C zs2.length f zs2), Calls Try.prog 27 #[.int .i64 z0, .slice A zs1.length c, .slice C zs2.length f] W (GivesS3 (slV z0 zs1 zs2).1 (slV z0 zs1 zs2).2.1 (slV z0 zs1 zs2).2.2 (slB z0 zs1 zs2) W)) := fun W A c C f hk hn => sealBallot_any z0 l0 l0' A _ c zs1 C _ f zs2 W hk hn
    obtain ⟨b1, b2, b3⟩ := sl_bd z0 zs1 zs2
    obtain ⟨ss, hss⟩ : ∃ r, (slV z0 zs1 zs2).1 = r := ⟨_, rfl⟩
    obtain ⟨ps, hps⟩ : ∃ r, (slV z0 zs1 zs2).2.1 = r := ⟨_, rfl⟩
    obtain ⟨key, hkey⟩ : ∃ r, (slV z0 zs1 zs2).2.2 = r := ⟨_, rfl⟩
    obtain ⟨bv, hbv⟩ : ∃ r, slB z0 zs1 zs2 = r := ⟨_, rfl⟩
    rw [hss, hps, hkey, hbv] at SPC IMC
    rw [hss, hps] at b1 b3
    rw [hps] at b2
    have SM := Lib.hid b1
    have HT := Lib.hid b3
    have HZ : Hid ((ss :: fl3 ps).length = 1 + ps.length * 3) := by show _ = _; simp [fl3_len]; omega
    clear hss hps hkey hbv b1 b3
    have bb := Below.refl w.heap.size w
    go_enter Try.func8, Try.ntmps8
    go_wp2_with fail
    refine (szInt64SS_any _ _ _ zs2 _ _ h2 (by omega) (by omega)).mono ?_
    rintro e w_ ⟨r2, rfl, hr, rfl⟩
    rcases hr with rfl | ⟨ra2, rb2, rc2, rd2⟩
    · go_wp2_with fail
      go_ret
      exact ⟨rfl, bb⟩
    have R2 := Lib.hid (fun (zs : List Int) (hz : zs ∈ zs2) => show zs.length ≤ 1048576 by have := len_le_tot hz; omega)
    go_wp2_with fail
    refine (toInt64S_any _ _ _ zs1 _ (h1.below bb) (by omega)).mono ?_
    rintro e w1 ⟨A_1, c_1, rfl, o1, u1⟩
    have z1 := u1.size
    replace bb := bel_trans bb u1
    have T1 := IR.mk' o1
    clear o1
    go_wp2_with fail
    refine (toInt64SS_any _ _ _ zs2 _ (h2.below bb) (by omega) R2.out).mono ?_
    rintro e w2 ⟨A_2, c_2, vs_2, rfl, o2, u2⟩
    have z2 := u2.size
    replace bb := bel_trans bb u2
    replace T1 := T1.below u2
    have T2 := MR.mk' o2
    clear o2
    go_wp2_with fail
    refine (SPC.out _ _ _ _ _ T1.own.ints T2.own.rws).mono ?_
    rintro e w3 ⟨A_3, c_3, B_3, d_3, hv_3, rfl, p3, u3⟩
    have z3 := u3.size
    replace bb := bel_trans bb u3
    replace T1 := T1.below u3
    replace T2 := T2.below u3
    have W := BR.mk' p3
    clear p3
    have a3 := bel_alloc w3 (.cells #[.slice A_3 ss.length c_3, .slice B_3 ps.length d_3, .int .i64 key] 48)
    have s3 : (w3.alloc (.cells #[.slice A_3 ss.length c_3, .slice B_3 ps.length d_3, .int .i64 key] 48)).heap.size = w3.heap.size + 1 := by simp
    have za3 := a3.size
    replace bb := bel_trans bb a3
    replace T1 := T1.below a3
    replace T2 := T2.below a3
    replace W := W.below a3
    have CW := Cs.new w3 [.slice A_3 ss.length c_3, .slice B_3 ps.length d_3, .int .i64 key] 48
    clear T1 T2
    go_wp2_with fail
    refine (toInt64S_any _ _ _ zs1 _ (h1.below bb) (by omega)).mono ?_
    rintro e w4 ⟨A_4, c_4, rfl, o4, u4⟩
    have z4 := u4.size
    replace bb := bel_trans bb u4
    replace W := W.below u4
    replace CW := CW.below u4
    have X1 := IR.mk' o4
    clear o4
    go_wp2_with fail
    refine (toInt64SS_any _ _ _ zs2 _ (h2.below bb) (by omega) R2.out).mono ?_
    rintro e w5 ⟨A_5, c_5, vs_5, rfl, o5, u5⟩
    have z5 := u5.size
    replace bb := bel_trans bb u5
    replace W := W.below u5
    replace CW := CW.below u5
    replace X1 := X1.below u5
    have X2 := MR.mk' o5
    clear o5
    go_wp2_with fail
    refine (IMC.out _ _ _ _ _ X1.own.ints X2.own.rws).mono ?_
    rintro e w6 ⟨A_6, c_6, B_6, d_6, hv_6, rfl, p6, u6⟩
    have z6 := u6.size
    replace bb := bel_trans bb u6
    replace W := W.below u6
    replace CW := CW.below u6
    replace X1 := X1.below u6
    replace X2 := X2.below u6
    have G := BR.mk' p6
    clear p6
    have a6 := bel_alloc w6 (.cells #[.slice A_6 ss.length c_6, .slice B_6 ps.length d_6, .int .i64 key] 48)
    have s6 : (w6.alloc (.cells #[.slice A_6 ss.length c_6, .slice B_6 ps.length d_6, .int .i64 key] 48)).heap.size = w6.heap.size + 1 := by simp
    have za6 := a6.size
    replace bb := bel_trans bb a6
    replace W := W.below a6
    replace CW := CW.below a6
    replace X1 := X1.below a6
    replace X2 := X2.below a6
    replace G := G.below a6
    have CG := Cs.new w6 [.slice A_6 ss.length c_6, .slice B_6 ps.length d_6, .int .i64 key] 48
    have qb : (bv != bv) = false := by simp
    have q0a := CG.cell 0 rfl
    have q1a := CG.cell 1 rfl
    have q2a := CG.cell 2 rfl
    have lta := CG.1
    have q0b := CW.cell 0 rfl
    have q1b := CW.cell 1 rfl
    have q2b := CW.cell 2 rfl
    have ltb := CW.1
    go_wp2_with fail
    clear q0a q1a q2a q0b q1b q2b
    refine (eqBallot_same _ _ _ ss _ _ _ ps key _ _ _ _ _ G.pb.own.ints G.pb.bps W.pb.own.ints W.pb.bps).mono ?_
    rintro e w7 ⟨rfl, u7⟩
    have z7 := u7.size
    replace bb := bel_trans bb u7
    replace W := W.below u7
    replace CW := CW.below u7
    replace X1 := X1.below u7
    replace X2 := X2.below u7
    replace G := G.below u7
    replace CG := CG.below u7
    go_wp2_with fail
    refine (toInt64S_any _ _ _ zs1 _ (h1.below bb) (by omega)).mono ?_
    rintro e w8 ⟨A_8, c_8, rfl, o8, u8⟩
    have z8 := u8.size
    replace bb := bel_trans bb u8
    replace W := W.below u8
    replace CW := CW.below u8
    replace X1 := X1.below u8
    replace X2 := X2.below u8
    replace G := G.below u8
    replace CG := CG.below u8
    have Y := IR.mk' o8
    clear o8
    go_wp2_with fail
    refine (eqInt64S_any _ _ _ zs1 _ _ _ zs1 _ X1.own.ints Y.own.ints).mono ?_
    rintro e w9 ⟨rfl, u9⟩
    rw [show decide (zs1 = zs1) = true by simp]
    have z9 := u9.size
    replace bb := bel_trans bb u9
    replace W := W.below u9
    replace CW := CW.below u9
    replace X1 := X1.below u9
    replace X2 := X2.below u9
    replace G := G.below u9
    replace CG := CG.below u9
    replace Y := Y.below u9
    clear Y
    go_wp2_with fail
    refine (toInt64SS_any _ _ _ zs2 _ (h2.below bb) (by omega) R2.out).mono ?_
    rintro e w10 ⟨A_10, c_10, vs_10, rfl, o10, u10⟩
    have z10 := u10.size
    replace bb := bel_trans bb u10
    replace W := W.below u10
    replace CW := CW.below u10
    replace X1 := X1.below u10
    replace X2 := X2.below u10
    replace G := G.below u10
    replace CG := CG.below u10
    have Y := MR.mk' o10
    clear o10
    go_wp2_with fail
    refine (eqInt64SS_same _ _ _ zs2 _ _ _ X2.own.rws Y.own.rws).mono ?_
    rintro e w11 ⟨rfl, u11⟩
    have z11 := u11.size
    replace bb := bel_trans bb u11
    replace W := W.below u11
    replace CW := CW.below u11
    replace X1 := X1.below u11
    replace X2 := X2.below u11
    replace G := G.below u11
    replace CG := CG.below u11
    replace Y := Y.below u11
    clear Y
    go_wp2_with fail
    refine (markInt64S_any _ _ _ _ zs1 _ _ X1.own (by omega) (by omega) (by omega)).mono ?_
    rintro e w12 ⟨rfl, o12, g12⟩
    have on12 := X1.own_only g12
    have z12 := on12.size
    replace bb := bel_only bb on12 (by omega)
    replace W := W.only on12 (by unfold Off; omega)
    replace CW := CW.only on12 (by omega)
    replace X2 := X2.only on12 (by unfold Off; omega)
    replace G := G.only on12 (by unfold Off; omega)
    replace CG := CG.only on12 (by omega)
    clear o12 g12 on12
    clear X1
    go_wp2_with fail
    refine (markInt64SS_any _ _ _ _ _ _ zs2 _ _ X2 (by omega) (by omega) (by omega) (by omega)).mono ?_
    rintro e w13 ⟨rfl, m13, on13, bs13⟩
    have z13 := on13.size
    replace bb := bel_only bb on13 (by omega)
    replace W := W.only on13 (by unfold Off; omega)
    replace CW := CW.only on13 (by omega)
    replace G := G.only on13 (by unfold Off; omega)
    replace CG := CG.only on13 (by omega)
    clear on13 bs13 m13
    clear X2
    have q0a := CG.cell 0 rfl
    have q1a := CG.cell 1 rfl
    have q2a := CG.cell 2 rfl
    have lta := CG.1
    have q0b := CW.cell 0 rfl
    have q1b := CW.cell 1 rfl
    have q2b := CW.cell 2 rfl
    have ltb := CW.1
    go_wp2_with fail
    clear q0a q1a q2a q0b q1b q2b
    refine (eqBallot_same _ _ _ ss _ _ _ ps key _ _ _ _ _ G.pb.own.ints G.pb.bps W.pb.own.ints W.pb.bps).mono ?_
    rintro e w14 ⟨rfl, u14⟩
    have z14 := u14.size
    replace bb := bel_trans bb u14
    replace W := W.below u14
    replace CW := CW.below u14
    replace G := G.below u14
    replace CG := CG.below u14
    have q0a := CG.cell 0 rfl
    have q1a := CG.cell 1 rfl
    have q2a := CG.cell 2 rfl
    have lta := CG.1
    go_wp2_with fail
    clear q0a q1a q2a
    refine (markBallot_h _ _ _ _ _ _ _ _ _ _ _ _ _ G.ob SM.out (by omega) (by omega) (by omega) HT.out).mono ?_
    rintro e w15 ⟨rfl, OG, m15⟩
    have on15 := m15.only
    have z15 := on15.size
    replace bb := bel_only bb on15 (by omega)
    replace W := W.only on15 (by unfold Off; omega)
    replace CW := CW.only on15 (by omega)
    replace CG := CG.only on15 (by omega)
    clear on15 m15
    clear G
    have q0a := CG.cell 0 rfl
    have q1a := CG.cell 1 rfl
    have q2a := CG.cell 2 rfl
    have lta := CG.1
    go_wp2_with fail
    clear q0a q1a q2a
    refine (heldBallot_h _ _ _ _ _ _ _ _ _ _ _ _ _ HZ.out OG SM.out (by omega) (by omega) (by omega) HT.out).mono ?_
    rintro e w16 ⟨rfl, u16⟩
    have z16 := u16.size
    replace bb := bel_trans bb u16
    replace W := W.below u16
    replace CW := CW.below u16
    replace CG := CG.below u16
    replace OG := OG.below u16
    go_wp2_with fail
    refine (toInt64S_any _ _ _ zs1 _ (h1.below bb) (by omega)).mono ?_
    rintro e w17 ⟨A_17, c_17, rfl, o17, u17⟩
    have z17 := u17.size
    replace bb := bel_trans bb u17
    replace W := W.below u17
    replace CW := CW.below u17
    replace CG := CG.below u17
    replace OG := OG.below u17
    have T1 := IR.mk' o17
    clear o17
    go_wp2_with fail
    refine (toInt64SS_any _ _ _ zs2 _ (h2.below bb) (by omega) R2.out).mono ?_
    rintro e w18 ⟨A_18, c_18, vs_18, rfl, o18, u18⟩
    have z18 := u18.size
    replace bb := bel_trans bb u18
    replace W := W.below u18
    replace CW := CW.below u18
    replace CG := CG.below u18
    replace OG := OG.below u18
    replace T1 := T1.below u18
    have T2 := MR.mk' o18
    clear o18
    go_wp2_with fail
    refine (IMC.out _ _ _ _ _ T1.own.ints T2.own.rws).mono ?_
    rintro e w19 ⟨A_19, c_19, B_19, d_19, hv_19, rfl, p19, u19⟩
    have z19 := u19.size
    replace bb := bel_trans bb u19
    replace W := W.below u19
    replace CW := CW.below u19
    replace CG := CG.below u19
    replace OG := OG.below u19
    replace T1 := T1.below u19
    replace T2 := T2.below u19
    have H := BR.mk' p19
    clear p19
    have a19 := bel_alloc w19 (.cells #[.slice A_19 ss.length c_19, .slice B_19 ps.length d_19, .int .i64 key] 48)
    have s19 : (w19.alloc (.cells #[.slice A_19 ss.length c_19, .slice B_19 ps.length d_19, .int .i64 key] 48)).heap.size = w19.heap.size + 1 := by simp
    have za19 := a19.size
    replace bb := bel_trans bb a19
    replace W := W.below a19
    replace CW := CW.below a19
    replace CG := CG.below a19
    replace OG := OG.below a19
    replace T1 := T1.below a19
    replace T2 := T2.below a19
    replace H := H.below a19
    have CH := Cs.new w19 [.slice A_19 ss.length c_19, .slice B_19 ps.length d_19, .int .i64 key] 48
    clear T1 T2
    have q0a := CH.cell 0 rfl
    have q1a := CH.cell 1 rfl
    have q2a := CH.cell 2 rfl
    have lta := CH.1
    have q0b := CW.cell 0 rfl
    have q1b := CW.cell 1 rfl
    have q2b := CW.cell 2 rfl
    have ltb := CW.1
    go_wp2_with fail
    clear q0a q1a q2a q0b q1b q2b
    refine (eqBallot_same _ _ _ ss _ _ _ ps key _ _ _ _ _ H.pb.own.ints H.pb.bps W.pb.own.ints W.pb.bps).mono ?_
    rintro e w20 ⟨rfl, u20⟩
    have z20 := u20.size
    replace bb := bel_trans bb u20
    replace W := W.below u20
    replace CW := CW.below u20
    replace CG := CG.below u20
    replace OG := OG.below u20
    replace H := H.below u20
    replace CH := CH.below u20
    clear H CH
    have q0a := CG.cell 0 rfl
    have q1a := CG.cell 1 rfl
    have q2a := CG.cell 2 rfl
    have lta := CG.1
    go_wp2_with fail
    clear q0a q1a q2a
    refine (heldBallot_h _ _ _ _ _ _ _ _ _ _ _ _ _ HZ.out OG SM.out (by omega) (by omega) (by omega) HT.out).mono ?_
    rintro e w21 ⟨rfl, u21⟩
    have z21 := u21.size
    replace bb := bel_trans bb u21
    replace W := W.below u21
    replace CW := CW.below u21
    replace CG := CG.below u21
    replace OG := OG.below u21
    go_wp2_with fail
    go_ret
    exact ⟨rfl, bb⟩
  · go_enter Try.func8, Try.ntmps8
    go_wp2_with fail
    go_ret
    exact ⟨rfl, Below.refl _ _⟩
end Go.Proofs.Ytnjnngnagdhaiaa
