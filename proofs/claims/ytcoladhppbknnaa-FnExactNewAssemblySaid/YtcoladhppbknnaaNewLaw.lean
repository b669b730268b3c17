/- The law FnExactNewAssembly, walked. -/
import Derived.Test.YtcoladhppbknnaaAsm5
import Derived.Test.YtcoladhppbknnaaArtOpen
namespace Go.Proofs.Ytcoladhppbknnaa
set_option linter.unusedVariables false
set_option linter.unusedSimpArgs false
set_option maxRecDepth 100000
open Go.RowKit Go.Deep
theorem selL_le (b : Bool) (rs : List Ar) : (selL b rs).length ≤ rs.length := by
  unfold selL
  split
  · exact Nat.le_refl _
  · exact Nat.zero_le _
theorem selL_ok {b : Bool} {rs : List Ar} (ok : ∀ a ∈ rs, ArOk a) : ∀ a ∈ selL b rs, ArOk a := by
  unfold selL
  split
  · exact ok
  · simp
set_option maxHeartbeats 4000000 in
theorem fnExactNewAssembly_walk (w : World) (mb : Int) (m1 : -9223372036854775808 ≤ mb) (m2 : mb ≤ 9223372036854775807) (ru : Int) (u1 : -9223372036854775808 ≤ ru) (u2 : ru ≤ 9223372036854775807) (A : Option Addr) (n c : Nat) (rs : List Ar) (h : Ars w A n c rs) :
    Calls Try.prog 4 #[.int .i64 mb, .int .i64 ru, .slice A n c] w fun e w' => e = .returned (.bool true) ∧ Below w.heap.size w w' := by
  obtain rfl : rs.length = n := h.len
  have n64 := h.short
  have H := Lib.hid h
  have okR := Lib.hid (selL_ok (b := okN mb ru rs) h.2)
  have hle := selL_le (okN mb ru rs) rs
  have IM := Lib.hid (fun B d W hW => NewAssembly_any mb ru B rs.length d rs W hW)
  have SP := Lib.hid (fun B d W hW => SNewAssembly_any mb ru B rs.length d rs W hW)
  have ok0 := Lib.hid h.2
  obtain ⟨RL, hRL⟩ : ∃ x, selI (okN mb ru rs) ru = x := ⟨_, rfl⟩
  obtain ⟨MM, hMM⟩ : ∃ x, selN (okN mb ru rs) mb = x := ⟨_, rfl⟩
  obtain ⟨R, hR⟩ : ∃ x, selL (okN mb ru rs) rs = x := ⟨_, rfl⟩
  rw [hRL, hMM, hR] at IM SP
  rw [hR] at okR hle
  obtain ⟨OK, hOK⟩ : ∃ x, okN mb ru rs = x := ⟨_, rfl⟩
  rw [hOK] at IM SP
  clear h hRL hMM hR hOK
  have eo : (OK != OK) = false := by cases OK <;> rfl
  go_enter Try.func4, Try.ntmps4
  go_wp2_with fail
  refine (szArticleS_any A rs.length c rs 1048576 (by omega) (by omega) _ H.out).mono ?_
  rintro e w1 ⟨r, rfl, hr, b1⟩
  have BW := Lib.hid b1
  clear b1
  by_cases q : r < 0
  · have d := decide_eq_true q
    go_wp2_with fail
    go_ret
    exact ⟨rfl, BW.out⟩
  have d := decide_eq_false q
  have hn : rs.length ≤ 1048576 := by omega
  clear hr
  go_wp2_with fail
  clear d
  refine (toArticleS_any A rs.length c rs _ (H.out.below BW.out) hn).mono ?_
  rintro e w2 ⟨Y, yc, rfl, oY, b2⟩
  have HY := Lib.hid (oY.ars ok0.out)
  replace BW := Lib.hid (bel_trans BW.out b2)
  clear oY b2
  go_wp2_with fail
  refine (SP.out _ _ _ HY.out).mono ?_
  rintro e w3 ⟨v, rfl, hv, b3⟩
  replace BW := Lib.hid (bel_trans BW.out b3)
  obtain ⟨sT, sc, sB, sd, sr, rfl, s1, s2, s3⟩ := hv
  have V0 := Lib.hid (show As _ _ _ RL MM R (.agg #[.int .i64 0, .int .i64 RL, .slice sT MM sc, .slice sB R.length sd, .slice none 0 0, .slice none 0 0]) from ⟨sT, sc, sB, sd, sr, rfl, s1, s2, s3⟩)
  clear s1 s2 s3
  have ba := bel_alloc w3 (.cells #[.int .i64 0, .int .i64 RL, .slice sT MM sc, .slice sB R.length sd, .slice none 0 0, .slice none 0 0] 41)
  have C8 := Lib.hid (Cs.new w3 [.int .i64 0, .int .i64 RL, .slice sT MM sc, .slice sB R.length sd, .slice none 0 0, .slice none 0 0] 41)
  replace V0 := Lib.hid (V0.out.below ba)
  replace BW := Lib.hid (bel_trans BW.out ba)
  clear b3 ba HY
  have g3 := BW.out.size
  go_wp2_with fail
  obtain ⟨w4, hw4⟩ : ∃ x, w3.alloc (.cells #[.int .i64 0, .int .i64 RL, .slice sT MM sc, .slice sB R.length sd, .slice none 0 0, .slice none 0 0] 41) = x := ⟨_, rfl⟩
  obtain ⟨g8, hg8⟩ : ∃ x, w3.heap.size = x := ⟨_, rfl⟩
  rw [hw4] at C8 V0 BW g3
  rw [hw4]
  rw [hg8] at C8 V0
  rw [hg8]
  clear hw4 hg8
  refine (toArticleS_any A rs.length c rs _ (H.out.below BW.out) hn).mono ?_
  rintro e w5 ⟨X, xc, rfl, oX, b5⟩
  have l8 := C8.out.1
  have RX := Lib.hid (RR.mk' oX)
  replace C8 := Lib.hid (C8.out.below b5)
  replace V0 := Lib.hid (V0.out.below b5)
  replace BW := Lib.hid (bel_trans BW.out b5)
  have g5 := b5.size
  clear b5 oX
  go_wp2_with fail
  refine (IM.out _ _ _ (RX.out.own.ars ok0.out)).mono ?_
  rintro e w6 ⟨v, rfl, hv, b6⟩
  replace BW := Lib.hid (bel_trans BW.out b6)
  replace C8 := Lib.hid (C8.out.below b6)
  replace V0 := Lib.hid (V0.out.below b6)
  replace RX := Lib.hid (RX.out.below b6)
  obtain ⟨gT, gc, gB, gd, gr, rfl, g1, g2, g3⟩ := hv
  have G0 := Lib.hid (show As _ _ _ RL MM R (.agg #[.int .i64 0, .int .i64 RL, .slice gT MM gc, .slice gB R.length gd, .slice none 0 0, .slice none 0 0]) from ⟨gT, gc, gB, gd, gr, rfl, g1, g2, g3⟩)
  clear g1 g2 g3
  have ba := bel_alloc w6 (.cells #[.int .i64 0, .int .i64 RL, .slice gT MM gc, .slice gB R.length gd, .slice none 0 0, .slice none 0 0] 41)
  have C11 := Lib.hid (Cs.new w6 [.int .i64 0, .int .i64 RL, .slice gT MM gc, .slice gB R.length gd, .slice none 0 0, .slice none 0 0] 41)
  replace BW := Lib.hid (bel_trans BW.out ba)
  replace C8 := Lib.hid (C8.out.below ba)
  replace V0 := Lib.hid (V0.out.below ba)
  replace RX := Lib.hid (RX.out.below ba)
  replace G0 := Lib.hid (G0.out.below ba)
  have g6 := b6.size
  clear b6 ba
  have y0 := C8.out.cell 0 rfl
  have y1 := C8.out.cell 1 rfl
  have y2 := C8.out.cell 2 rfl
  have y3 := C8.out.cell 3 rfl
  have y4 := C8.out.cell 4 rfl
  have y5 := C8.out.cell 5 rfl
  have z0 := C11.out.cell 0 rfl
  have z1 := C11.out.cell 1 rfl
  have z2 := C11.out.cell 2 rfl
  have z3 := C11.out.cell 3 rfl
  have z4 := C11.out.cell 4 rfl
  have z5 := C11.out.cell 5 rfl
  go_wp2_with fail
  obtain ⟨w7, hw7⟩ : ∃ x, w6.alloc (.cells #[.int .i64 0, .int .i64 RL, .slice gT MM gc, .slice gB R.length gd, .slice none 0 0, .slice none 0 0] 41) = x := ⟨_, rfl⟩
  obtain ⟨g11, hg11⟩ : ∃ x, w6.heap.size = x := ⟨_, rfl⟩
  rw [hw7] at C8 C11 V0 BW RX G0
  rw [hw7]
  rw [hg11] at C11 G0 g6
  rw [hg11]
  clear hw7 hg11 y0 y1 y2 y3 y4 y5 z0 z1 z2 z3 z4 z5
  obtain ⟨x0, hx0⟩ : ∃ x, w4.heap.size = x := ⟨_, rfl⟩
  obtain ⟨x1, hx1⟩ : ∃ x, w5.heap.size = x := ⟨_, rfl⟩
  rw [hx0] at RX g5 l8
  rw [hx1] at RX g5 g6 G0
  clear hx1
  refine (eqAssembly_same RL MM R okR.out _ _ _ G0.out V0.out).mono ?_
  rintro e w8 ⟨rfl, b8⟩
  replace BW := Lib.hid (bel_trans BW.out b8)
  replace C8 := Lib.hid (C8.out.below b8)
  replace C11 := Lib.hid (C11.out.below b8)
  replace V0 := Lib.hid (V0.out.below b8)
  replace RX := Lib.hid (RX.out.below b8)
  replace G0 := Lib.hid (G0.out.below b8)
  clear b8
  go_wp2_with fail
  refine (toArticleS_any A rs.length c rs _ (H.out.below BW.out) hn).mono ?_
  rintro e w9 ⟨Y2, y2c, rfl, oY, b9⟩
  have HY := Lib.hid (oY.ars ok0.out)
  replace BW := Lib.hid (bel_trans BW.out b9)
  replace C8 := Lib.hid (C8.out.below b9)
  replace C11 := Lib.hid (C11.out.below b9)
  replace V0 := Lib.hid (V0.out.below b9)
  replace RX := Lib.hid (RX.out.below b9)
  replace G0 := Lib.hid (G0.out.below b9)
  clear oY b9
  go_wp2_with fail
  refine (eqArticleS_same X rs.length xc Y2 y2c rs _ (RX.out.own.ars ok0.out) HY.out).mono ?_
  rintro e w10 ⟨rfl, b10⟩
  replace BW := Lib.hid (bel_trans BW.out b10)
  replace C8 := Lib.hid (C8.out.below b10)
  replace C11 := Lib.hid (C11.out.below b10)
  replace V0 := Lib.hid (V0.out.below b10)
  replace RX := Lib.hid (RX.out.below b10)
  replace G0 := Lib.hid (G0.out.below b10)
  clear b10 HY
  go_wp2_with fail
  refine (markArticleS_any 70 x0 x1 X rs.length xc _ 1 _ RX.out hn (by omega) (by omega)).mono ?_
  rintro e w11 ⟨rfl, _, o11⟩
  replace BW := Lib.hid (bel_only BW.out o11 (by rw [← hx0]; exact g3))
  replace C8 := Lib.hid (C8.out.only o11 (.inl l8))
  replace C11 := Lib.hid (C11.out.only o11 (.inr g6))
  replace V0 := Lib.hid (V0.out.only o11 (.inl (Nat.le_of_lt l8)))
  replace G0 := Lib.hid (G0.out.only o11 (.inr (Nat.le_refl _)))
  clear o11 RX
  obtain ⟨K, hK⟩ : ∃ x : Int, ((1 + 2 * rs.length : Nat) : Int) = x := ⟨_, rfl⟩
  have dK := decide_eq_false (show ¬ K < 0 by omega)
  rw [hK]
  clear hK
  have y0 := C8.out.cell 0 rfl
  have y1 := C8.out.cell 1 rfl
  have y2 := C8.out.cell 2 rfl
  have y3 := C8.out.cell 3 rfl
  have y4 := C8.out.cell 4 rfl
  have y5 := C8.out.cell 5 rfl
  have z0 := C11.out.cell 0 rfl
  have z1 := C11.out.cell 1 rfl
  have z2 := C11.out.cell 2 rfl
  have z3 := C11.out.cell 3 rfl
  have z4 := C11.out.cell 4 rfl
  have z5 := C11.out.cell 5 rfl
  go_wp2_with fail
  refine (eqAssembly_same RL MM R okR.out _ _ _ G0.out V0.out).mono ?_
  rintro e w12 ⟨rfl, b12⟩
  replace BW := Lib.hid (bel_trans BW.out b12)
  replace C8 := Lib.hid (C8.out.below b12)
  replace C11 := Lib.hid (C11.out.below b12)
  replace V0 := Lib.hid (V0.out.below b12)
  replace G0 := Lib.hid (G0.out.below b12)
  clear b12 y0 y1 y2 y3 y4 y5 z0 z1 z2 z3 z4 z5
  have z0 := C11.out.cell 0 rfl
  have z1 := C11.out.cell 1 rfl
  have z2 := C11.out.cell 2 rfl
  have z3 := C11.out.cell 3 rfl
  have z4 := C11.out.cell 4 rfl
  have z5 := C11.out.cell 5 rfl
  go_wp2_with fail
  refine (markAssembly_any RL MM R (by omega) _ 1 (by omega) (by omega) _ (by have := C11.out.1; omega) G0.out).mono ?_
  rintro e w13 ⟨rfl, gm, o13⟩
  have GM := Lib.hid gm
  replace BW := Lib.hid (bel_only BW.out o13 (by rw [← hx0] at g5; omega))
  replace C8 := Lib.hid (C8.out.only o13 (.inl (by omega)))
  replace C11 := Lib.hid (C11.out.only o13 (.inr (Nat.le_refl _)))
  replace V0 := Lib.hid (V0.out.only o13 (.inl (by omega)))
  clear o13 gm G0 z0 z1 z2 z3 z4 z5
  obtain ⟨L, hL⟩ : ∃ x : Int, ((1 + 2 * R.length : Nat) : Int) = x := ⟨_, rfl⟩
  have HE := Lib.hid (fun W hW => heldAssembly_any MM 1 R.length (by omega) (.agg #[.int .i64 0, .int .i64 RL, .slice gT MM gc, .slice gB R.length gd, .slice none 0 0, .slice none 0 0]) (by omega) (by omega) W (lo := x1) (hi := g11) hW)
  have dL := decide_eq_false (show ¬ L < 0 by omega)
  have eL : (L != L) = false := by simp
  rw [hL] at HE
  rw [hL]
  clear hL
  have z0 := C11.out.cell 0 rfl
  have z1 := C11.out.cell 1 rfl
  have z2 := C11.out.cell 2 rfl
  have z3 := C11.out.cell 3 rfl
  have z4 := C11.out.cell 4 rfl
  have z5 := C11.out.cell 5 rfl
  go_wp2_with fail
  refine (HE.out _ GM.out).mono ?_
  rintro e w14 ⟨rfl, b14⟩
  replace BW := Lib.hid (bel_trans BW.out b14)
  replace C8 := Lib.hid (C8.out.below b14)
  replace C11 := Lib.hid (C11.out.below b14)
  replace V0 := Lib.hid (V0.out.below b14)
  replace GM := Lib.hid (GM.out.below b14)
  clear b14 z0 z1 z2 z3 z4 z5
  go_wp2_with fail
  refine (toArticleS_any A rs.length c rs _ (H.out.below BW.out) hn).mono ?_
  rintro e w15 ⟨Y3, y3c, rfl, oY, b15⟩
  have HY := Lib.hid (oY.ars ok0.out)
  replace BW := Lib.hid (bel_trans BW.out b15)
  replace C8 := Lib.hid (C8.out.below b15)
  replace C11 := Lib.hid (C11.out.below b15)
  replace V0 := Lib.hid (V0.out.below b15)
  replace GM := Lib.hid (GM.out.below b15)
  clear oY b15
  go_wp2_with fail
  refine (IM.out _ _ _ HY.out).mono ?_
  rintro e w16 ⟨v, rfl, hv, b16⟩
  replace BW := Lib.hid (bel_trans BW.out b16)
  replace C8 := Lib.hid (C8.out.below b16)
  replace C11 := Lib.hid (C11.out.below b16)
  replace V0 := Lib.hid (V0.out.below b16)
  replace GM := Lib.hid (GM.out.below b16)
  obtain ⟨kT, kc, kB, kd, kr, rfl, k1, k2, k3⟩ := hv
  have K0 := Lib.hid (show As _ _ _ RL MM R (.agg #[.int .i64 0, .int .i64 RL, .slice kT MM kc, .slice kB R.length kd, .slice none 0 0, .slice none 0 0]) from ⟨kT, kc, kB, kd, kr, rfl, k1, k2, k3⟩)
  clear k1 k2 k3
  have ba := bel_alloc w16 (.cells #[.int .i64 0, .int .i64 RL, .slice kT MM kc, .slice kB R.length kd, .slice none 0 0, .slice none 0 0] 41)
  have C16 := Lib.hid (Cs.new w16 [.int .i64 0, .int .i64 RL, .slice kT MM kc, .slice kB R.length kd, .slice none 0 0, .slice none 0 0] 41)
  replace BW := Lib.hid (bel_trans BW.out ba)
  replace C8 := Lib.hid (C8.out.below ba)
  replace C11 := Lib.hid (C11.out.below ba)
  replace V0 := Lib.hid (V0.out.below ba)
  replace GM := Lib.hid (GM.out.below ba)
  replace K0 := Lib.hid (K0.out.below ba)
  clear b16 ba HY
  have y0 := C8.out.cell 0 rfl
  have y1 := C8.out.cell 1 rfl
  have y2 := C8.out.cell 2 rfl
  have y3 := C8.out.cell 3 rfl
  have y4 := C8.out.cell 4 rfl
  have y5 := C8.out.cell 5 rfl
  have x0 := C16.out.cell 0 rfl
  have x1 := C16.out.cell 1 rfl
  have x2 := C16.out.cell 2 rfl
  have x3 := C16.out.cell 3 rfl
  have x4 := C16.out.cell 4 rfl
  have x5 := C16.out.cell 5 rfl
  go_wp2_with fail
  refine (eqAssembly_same RL MM R okR.out _ _ _ K0.out V0.out).mono ?_
  rintro e w17 ⟨rfl, b17⟩
  replace BW := Lib.hid (bel_trans BW.out b17)
  replace C11 := Lib.hid (C11.out.below b17)
  replace GM := Lib.hid (GM.out.below b17)
  clear b17 y0 y1 y2 y3 y4 y5 x0 x1 x2 x3 x4 x5
  have z0 := C11.out.cell 0 rfl
  have z1 := C11.out.cell 1 rfl
  have z2 := C11.out.cell 2 rfl
  have z3 := C11.out.cell 3 rfl
  have z4 := C11.out.cell 4 rfl
  have z5 := C11.out.cell 5 rfl
  go_wp2_with fail
  refine (HE.out _ GM.out).mono ?_
  rintro e w18 ⟨rfl, b18⟩
  replace BW := Lib.hid (bel_trans BW.out b18)
  clear b18 z0 z1 z2 z3 z4 z5
  go_wp2_with fail
  go_ret
  exact ⟨rfl, BW.out⟩
end Go.Proofs.Ytcoladhppbknnaa
