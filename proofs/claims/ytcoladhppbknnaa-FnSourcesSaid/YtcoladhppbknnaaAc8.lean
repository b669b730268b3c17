/- Drawn acts. -/
import Derived.Test.YtcoladhppbknnaaAc7
namespace Go.Proofs.Ytcoladhppbknnaa
set_option linter.unusedVariables false
set_option linter.unusedSimpArgs false
set_option maxRecDepth 100000
open Go.RowKit Go.Deep
def lenV : Value → Nat
  | .slice _ n _ => n
  | _ => 0
def DrawnA (g : Nat) (An : Option Addr) (nn cn : Nat) (bs : List Int) (w : World) (e : Ending) (w' : World) : Prop :=
  ∃ (s : List Ar) (A : Option Addr) (L c : Nat) (es : List Ac) (B : Option Addr) (M d k' : Nat), e = .returned (.tuple #[.slice A L c, .slice B M d]) ∧ SD s ∧ ArsO w' w.heap.size A L c s ∧ AcsO w' w.heap.size B M d es ∧ Src w' g An nn cn bs k' ∧ w.grownBy w' (some g)
set_option maxHeartbeats 8000000 in
theorem l07DrawActs_any (g : Nat) (An : Option Addr) (nn cn : Nat) (bs : List Int) (w : World) (h : Src w g An nn cn bs 0) :
    Calls Try.prog 81 #[.pointer (some ⟨g, 0, none⟩)] w (DrawnA g An nn cn bs w) := by
  have gl := h.lt
  have DO := Lib.hid (l07DrawOk_any g An nn cn bs 0 (by omega) w h)
  clear h
  go_enter Try.func81, Try.ntmps81
  go_wp2_with fail
  refine DO.out.mono ?_
  rintro e w1 ⟨s, BA, bn, bc, k1, rfl, hsd, hb1, hk1, hs1, hg1⟩
  have SDs := Lib.hid hsd
  have ba := bel_alloc w1 (.cells #[] 72)
  have sz1 := hg1.size
  have B1 := Lib.hid (show ArsO _ w.heap.size BA bn bc s from OwnR.below hb1 ba)
  have A1 := acsO_lit w1
  have D1 := Lib.hid (show DA w g An nn cn bs BA bn bc s BA bn bc s (some ⟨w1.heap.size, 0, none⟩) 0 0 [] (w1.alloc (.cells #[] 72)) k1 from
    ⟨hs1.kept ba, grown_trans hg1 (World.grownBy_alloc _ _ _), B1.out, B1.out, ⟨A1.1.mono sz1, by simp⟩⟩)
  clear hsd hb1 hs1 hg1 ba A1 DO B1
  go_wp2_with fail
  refine (pick_any 4 g An nn cn bs k1 _ D1.out.src (by omega) (by omega) (by omega)).mono ?_
  rintro e w2 ⟨f0, k2, rfl, hf, k20, k21, hs2, hg2⟩
  obtain ⟨f00, f01⟩ := hf.lt (by omega)
  have D2 := Lib.hid (D1.out.low hs2 hg2 gl)
  clear hf hs2 hg2 D1
  go_wp2_with fail
  refine (pick_any 5 g An nn cn bs k2 _ D2.out.src (by omega) (by omega) (by omega)).mono ?_
  rintro e w3 ⟨K0, k3, rfl, hK, k30, k31, hs3, hg3⟩
  obtain ⟨K00, K01⟩ := hK.lt (by omega)
  obtain ⟨K0, rfl⟩ := Int.eq_ofNat_of_zero_le K00
  have D3 := Lib.hid (D2.out.low hs3 hg3 gl)
  clear hK hs3 hg3 D2
  go_wp2_with fail
  go_loopw [5, 6, 7, 8] (fun s5 s6 s7 s8 wr => ∃ (K kk : Nat) (fr : Int) (A : Option Addr) (L c : Nat) (es : List Ac) (TA : Option Addr) (tn tc : Nat) (t : List Ar), s5 = .slice A L c ∧ s6 = .int .i64 fr ∧ s7 = .slice TA tn tc ∧ s8 = .int .i64 K ∧ L + K ≤ 4 ∧ 0 ≤ fr ∧ fr ≤ 3 + 4 * L ∧ SOk t ∧ DA w g An nn cn bs BA bn bc s TA tn tc t A L c es wr kk ∧ kk ≤ k3 + 500 * L) (fun _ _ _ t _ => (intOf t).toNat)
  case atStart => exact ⟨K0, k3, f0, _, 0, 0, [], BA, bn, bc, s, rfl, rfl, rfl, rfl, by omega, by omega, by omega, SDs.out.ok, D3.out, by omega⟩
  case round =>
    obtain ⟨K, kk, fr, A, L, c, es, TA, tn, tc, t, rfl, rfl, rfl, rfl, hLK, fr0, fr1, ht, hd, hkk⟩ := hrel
    have TS := Lib.hid ht
    have HD := Lib.hid hd
    have kb : kk ≤ 10000 := by omega
    clear ht hd D3
    by_cases hK : 0 < K
    · have d0 := decide_eq_true (show (0 : Int) < (K : Int) by omega)
      have eK : IntKind.i64.wrap ((K : Int) - 1) = ((K - 1 : Nat) : Int) := by rw [IntWalk.i64_in _ (by omega)]; omega
      have ef : IntKind.i64.wrap (fr + 1) = fr + 1 := IntWalk.i64_in _ (by omega)
      go_wp2_with fail
      refine (pick_any 12 g An nn cn bs kk _ HD.out.src (by omega) (by omega) (by omega)).mono ?_
      rintro e w4 ⟨x, k4, rfl, hx, k40, k41, hs4, hg4⟩
      obtain ⟨x0, x1⟩ := hx.lt (by omega)
      have D4 := Lib.hid (HD.out.low hs4 hg4 gl)
      have eu : IntKind.i64.wrap (fr + 1 + x) = fr + 1 + x := IntWalk.i64_in _ (by omega)
      obtain ⟨U0, hU0⟩ : ∃ y, fr + 1 + x = y := ⟨_, rfl⟩
      rw [hU0] at eu
      have g4l : g < w4.heap.size := hs4.lt
      have w4l : w.heap.size ≤ w4.heap.size := D4.out.gr.size
      have u00 : -2000 ≤ U0 := by omega
      have u01 : U0 ≤ 2000 := by omega
      clear hx hs4 hg4 HD
      have C5 := Lib.hid (Cs.new w4 [.int .i64 fr, .int .i64 U0, .slice none 0 0] 72)
      have G5 := Lib.hid (show w4.grownBy (w4.alloc (.cells #[.int .i64 fr, .int .i64 U0, .slice none 0 0] 72)) (some g) from World.grownBy_alloc _ _ _)
      have S5 := Lib.hid (D4.out.src.kept (bel_alloc w4 (.cells #[.int .i64 fr, .int .i64 U0, .slice none 0 0] 72)))
      go_upto_region 9 with fail
      rw [show [Value.int .i64 fr, .int .i64 U0, .slice none 0 0].toArray = #[.int .i64 fr, .int .i64 U0, .slice none 0 0] from rfl] at C5
      obtain ⟨w5, hw5⟩ : ∃ x, w4.alloc (.cells #[.int .i64 fr, .int .i64 U0, .slice none 0 0] 72) = x := ⟨_, rfl⟩
      rw [hw5] at C5 G5 S5
      rw [hw5]
      clear hw5
      obtain ⟨g9, hg9⟩ : ∃ x, w4.heap.size = x := ⟨_, rfl⟩
      rw [hg9] at C5 g4l w4l
      rw [hg9]
      have G9 := Lib.hid hg9
      clear hg9 hU0
      go_wp2_with fail
      refine (one_any 3 g An nn cn bs k4 _ S5.out (by omega) (by omega) (by omega)).mono ?_
      rintro e w6 ⟨q, k6, rfl, k60, k61, hs6, hg6⟩
      have C6 := Lib.hid (C5.out.kept hg6 (by intro e; injection e with e; omega))
      have G6 := Lib.hid (grown_trans G5.out hg6)
      have S6 := Lib.hid hs6
      clear hs6 hg6 C5 G5 S5
      go_upto_if 34 with fail
      go_cut [9] from 26 to 65 (fun s9 wc => s9 = .pointer (some ⟨g9, 0, none⟩) ∧ ∃ U, -2000 ≤ U ∧ U ≤ 2000 ∧ Cs wc g9 [.int .i64 fr, .int .i64 U, .slice none 0 0] ∧ w4.grownBy wc (some g) ∧ Src wc g An nn cn bs k6)
      case first =>
        cases q
        · go_wp2_with fail
          go_meet
          case rel => exact ⟨rfl, U0, u00, u01, C6.out, G6.out, S6.out⟩
        · have y1 := C6.out.cell 1 rfl
          have f1 := C6.out.free 1 rfl
          go_wp2_with fail
          go_meet
          case rel => exact ⟨rfl, 1000, by omega, by omega, C6.out.set 1 _ (by simp), gr_set G6.out (by rw [G9.out]; exact Nat.le_refl _) _ _, S6.out.grown (grown_set w6 g9 1 _) (fun x hx => by injection hx with hx; omega)⟩
      case rest =>
      obtain ⟨rfl, U, u0, u1, c7, g7, s7⟩ := hcut
      have C7 := Lib.hid c7
      have G7 := Lib.hid g7
      have S7 := Lib.hid s7
      clear c7 g7 s7 C6 G6 S6 u00 u01
      go_wp2_with fail
      refine (one_any 6 g An nn cn bs k6 _ S7.out (by omega) (by omega) (by omega)).mono ?_
      rintro e w8 ⟨q6, k8, rfl, k80, k81, hs8, hg8⟩
      have C8 := Lib.hid (C7.out.kept hg8 (by intro e; injection e with e; omega))
      have G8 := Lib.hid (grown_trans G7.out hg8)
      have S8 := Lib.hid hs8
      have D8 := Lib.hid (D4.out.low hs8 G8.out gl)
      clear hs8 hg8 C7 G7 S7
      go_upto_if 38 with fail
      go_cut [10] from 26 to 65 (fun s10 wx => (∃ XA xn xc x, s10 = .slice XA xn xc ∧ SOk x ∧ ArsO w8 w.heap.size XA xn xc x) ∧ w8 = wx)
      case first =>
        cases q6
        · go_wp2_with fail
          go_meet
          case rel => exact ⟨⟨TA, tn, tc, t, rfl, TS.out, D8.out.t⟩, rfl⟩
        · go_wp2_with fail
          go_meet
          case rel => exact ⟨⟨BA, bn, bc, s, rfl, SDs.out.ok, D8.out.b⟩, rfl⟩
      case rest =>
      obtain ⟨⟨XA, xn, xc, x, rfl, xok, hx⟩, rfl⟩ := hcut
      have DF := Lib.hid (l07DrawFor_any g An nn cn bs k8 (by omega) w.heap.size XA xn xc x w8 S8.out hx xok gl)
      clear hx xok
      go_wp2_with fail
      refine DF.out.mono ?_
      rintro e wp ⟨p, PA, pn, pc, kp, rfl, hpd, hp, _, hkp, hsp, hgp⟩
      have PDp := Lib.hid hpd
      have Cp := Lib.hid (C8.out.kept hgp (by intro e; injection e with e; omega))
      have Gp := Lib.hid (grown_trans G8.out hgp)
      have g9p : g9 < w8.heap.size := C8.out.1
      have y2 := Cp.out.cell 2 rfl
      have f2 := Cp.out.free 2 rfl
      have Gq := grown_set wp g9 2 (.slice PA pn pc)
      have C9 := Lib.hid (Cp.out.set 2 (.slice PA pn pc) (by simp))
      have S9 := Lib.hid (hsp.grown Gq (fun x hx => by injection hx with hx; omega))
      have G9' := Lib.hid (gr_set Gp.out (g := g9) (by rw [G9.out]; exact Nat.le_refl _) 2 (.slice PA pn pc))
      have P9 := Lib.hid (show EdsO _ w8.heap.size PA pn pc p from OwnR.kept hp Gq (ne_lt' (fun x hx => (OwnR.block hp x hx).1) g9p))
      have D9 := Lib.hid (D4.out.low S9.out G9'.out gl)
      have l8 : w.heap.size ≤ w8.heap.size := by have := G8.out.size; rw [G9.out] at this; omega
      clear hpd hp hsp hgp C8 G8 S8 D8 DF Gq Gp
      go_upto_region 15 with fail
      rw [show [Value.int .i64 fr, .int .i64 U, .slice none 0 0].set 2 (.slice PA pn pc) = [.int .i64 fr, .int .i64 U, .slice PA pn pc] from rfl] at C9
      obtain ⟨w9, hw9⟩ : ∃ x, wp.setCell ⟨g9, 2, none⟩ (.slice PA pn pc) = x := ⟨_, rfl⟩
      rw [hw9] at C9 S9 G9' P9 D9
      rw [hw9]
      clear hw9 y2 f2 Cp
      have y2 := C9.out.cell 2 rfl
      have AP := Lib.hid (l07Apply_any TA tn tc t PA pn pc p w9 (D9.out.t.ars' TS.out) (P9.out.eds PDp.out.ok.ok) TS.out PDp.out.ok)
      go_wp2_with fail
      refine AP.out.mono ?_
      rintro e wa ⟨r, NA, nL, nc, rfl, hr, b10⟩
      have HR := Lib.hid hr
      have C10 := Lib.hid (C9.out.below b10)
      have D10 := Lib.hid (D9.out.below b10)
      have P10 := Lib.hid (show EdsO wa w8.heap.size PA pn pc p from OwnR.below P9.out b10)
      have w9l : w.heap.size ≤ w9.heap.size := D9.out.gr.size
      clear hr b10 C9 S9 G9' P9 D9 y2 AP D4
      have z0 := C10.out.cell 0 rfl
      have z1 := C10.out.cell 1 rfl
      have z2 := C10.out.cell 2 rfl
      have AX := Lib.hid (show AOk wa w.heap.size ⟨fr, U, PA, pn, pc, p⟩ from ⟨⟨by show -2000 ≤ fr; omega, by show fr ≤ 2000; omega⟩, ⟨u0, u1⟩, P10.out.mono l8, PDp.out.p98⟩)
      have lwa : w.heap.size ≤ wa.heap.size := D10.out.gr.size
      clear P10 C10
      cases r
      · clear HR
        have DT := Lib.hid (D10.out.turn D10.out.t)
        clear D10
        go_wp2_with (at_builtin; refine app_ac1 wa rfl _ _ rfl w.heap.size A L c es rfl DT.out.a ⟨fr, U, PA, pn, pc, p⟩ AX.out rfl (by omega) lwa ?_; intro A' c' wb p1 p2; have D11 := Lib.hid (DT.out.app gl p1 p2); clear p1 p2)
        refine (pick_any 5 g An nn cn bs kp _ D11.out.src (by omega) (by omega) (by omega)).mono ?_
        rintro e wd ⟨y, kd, rfl, hy, kd0, kd1, hsd, hgd⟩
        obtain ⟨y0, y1⟩ := hy.lt (by omega)
        have D12 := Lib.hid (D11.out.low hsd hgd gl)
        have ey : IntKind.i64.wrap (fr + y) = fr + y := IntWalk.i64_in _ (by omega)
        clear hy hsd hgd D11
        go_wp2_with fail
        go_roundw
        case rel => exact ⟨K - 1, kd, fr + y, A', L + 1, c', _, TA, tn, tc, t, rfl, rfl, rfl, rfl, by omega, by omega, by push_cast; omega, TS.out, D12.out, by omega⟩
        case measure => simp [intOf]; omega
      · obtain ⟨hF, h8, hO⟩ := HR.out rfl
        have OKN := Lib.hid (apps_ok TS.out PDp.out.ok hF).1
        have ON := Lib.hid (show ArsO wa w.heap.size NA nL nc (apps t p) from OwnR.mono hO w9l)
        clear hF h8 hO HR
        by_cases hu : 999 < U
        · have du := decide_eq_true hu
          have DT := Lib.hid (D10.out.turn ON.out)
          clear D10
          go_wp2_with (at_builtin; refine app_ac1 wa rfl _ _ rfl w.heap.size A L c es rfl DT.out.a ⟨fr, U, PA, pn, pc, p⟩ AX.out rfl (by omega) lwa ?_; intro A' c' wb p1 p2; have D11 := Lib.hid (DT.out.app gl p1 p2); clear p1 p2)
          refine (pick_any 5 g An nn cn bs kp _ D11.out.src (by omega) (by omega) (by omega)).mono ?_
          rintro e wd ⟨y, kd, rfl, hy, kd0, kd1, hsd, hgd⟩
          obtain ⟨y0, y1⟩ := hy.lt (by omega)
          have D12 := Lib.hid (D11.out.low hsd hgd gl)
          have ey : IntKind.i64.wrap (fr + y) = fr + y := IntWalk.i64_in _ (by omega)
          clear hy hsd hgd D11
          go_wp2_with fail
          go_roundw
          case rel => exact ⟨K - 1, kd, fr + y, A', L + 1, c', _, NA, nL, nc, (apps t p), rfl, rfl, rfl, rfl, by omega, by omega, by push_cast; omega, OKN.out, D12.out, by omega⟩
          case measure => simp [intOf]; omega
        · have du := decide_eq_false hu
          have DT := Lib.hid (D10.out.turn D10.out.t)
          clear D10
          go_wp2_with (at_builtin; refine app_ac1 wa rfl _ _ rfl w.heap.size A L c es rfl DT.out.a ⟨fr, U, PA, pn, pc, p⟩ AX.out rfl (by omega) lwa ?_; intro A' c' wb p1 p2; have D11 := Lib.hid (DT.out.app gl p1 p2); clear p1 p2)
          refine (pick_any 5 g An nn cn bs kp _ D11.out.src (by omega) (by omega) (by omega)).mono ?_
          rintro e wd ⟨y, kd, rfl, hy, kd0, kd1, hsd, hgd⟩
          obtain ⟨y0, y1⟩ := hy.lt (by omega)
          have D12 := Lib.hid (D11.out.low hsd hgd gl)
          have ey : IntKind.i64.wrap (fr + y) = fr + y := IntWalk.i64_in _ (by omega)
          clear hy hsd hgd D11
          go_wp2_with fail
          go_roundw
          case rel => exact ⟨K - 1, kd, fr + y, A', L + 1, c', _, TA, tn, tc, t, rfl, rfl, rfl, rfl, by omega, by omega, by push_cast; omega, TS.out, D12.out, by omega⟩
          case measure => simp [intOf]; omega
    · obtain rfl : K = 0 := by omega
      have L4 : L ≤ 4 := by omega
      have hes := HD.out.a.len
      by_cases hL0 : L = 0
      · subst hL0
        go_wp2_with fail
        exact bodyPost_ret (v := .tuple #[.slice BA bn bc, .slice A _ c]) (by simp [results, Try.results81, go_sem]) rfl ⟨s, BA, bn, bc, es, A, _, c, kk, rfl, SDs.out, HD.out.b, HD.out.a, HD.out.src, HD.out.gr⟩
      have dL := decide_eq_false (show ¬ (L : Int) = 0 by omega)
      have dL2 : ((L : Int) == 0) = false := by rw [beq_eq_false_iff_ne]; omega
      go_wp2_with fail
      refine (one_any 14 g An nn cn bs kk _ HD.out.src (by omega) (by omega) (by omega)).mono ?_
      rintro e w4 ⟨q, k4, rfl, k40, k41, hs4, hg4⟩
      have D4 := Lib.hid (HD.out.low hs4 hg4 gl)
      clear hs4 hg4 HD
      cases q
      · go_wp2_with fail
        exact bodyPost_ret (v := .tuple #[.slice BA bn bc, .slice A _ c]) (by simp [results, Try.results81, go_sem]) rfl ⟨s, BA, bn, bc, es, A, _, c, k4, rfl, SDs.out, D4.out.b, D4.out.a, D4.out.src, D4.out.gr⟩
      go_wp2_with fail
      refine (pick_any L g An nn cn bs k4 _ D4.out.src (by omega) (by omega) (by omega)).mono ?_
      rintro e w5 ⟨ix, k5, rfl, hix, k50, k51, hs5, hg5⟩
      obtain ⟨ix0, ix1⟩ := hix.lt (by omega)
      obtain ⟨ix, rfl⟩ := Int.eq_ofNat_of_zero_le ix0
      have D5 := Lib.hid (D4.out.low hs5 hg5 gl)
      have ixL : ix < L := by omega
      clear hix hs5 hg5 D4
      go_wp2_with fail
      refine (pick_any 4 g An nn cn bs k5 _ D5.out.src (by omega) (by omega) (by omega)).mono ?_
      rintro e w6 ⟨r, k6, rfl, hr, k60, k61, hs6, hg6⟩
      obtain ⟨r0, r1⟩ := hr.lt (by omega)
      have D6 := Lib.hid (D5.out.low hs6 hg6 gl)
      have gl6 : g < w6.heap.size := hs6.lt
      clear hr hs6 hg6 D5
      have S6 := D6.out.src
      obtain ⟨gA, e, rfl, l1, l2, he, ae, x0, x1, x2, fz⟩ := D6.out.a.at ixL
      have hr7 := Lib.hid (show (es.map Ac.vals)[ix]? = some e.vals by rw [List.getElem?_map, he.out]; rfl)
      have fb := ae.out.f
      have ub := ae.out.u
      have pp := Lib.hid ae.out.p98
      clear ae fz
      have S6 := Lib.hid S6
      rcases (show r = 0 ∨ r = 1 ∨ r = 2 ∨ r = 3 by omega) with rfl | rfl | rfl | rfl
      · skip
        have b6 := bel_alloc w6 (.cells (vals [-1, e.f, 1001]).toArray 2)
        have I6 := Lib.hid (ownI_lits w6 [-1, e.f, 1001] (by intro z hz; simp at hz; exact WalkArith.wf_i64 (by omega)) (by simp)).ints
        have D6' := Lib.hid (D6.out.below b6)
        have S6' := Lib.hid (S6.out.kept b6)
        clear b6
        go_wp2_with fail
        refine Calls.mono (show Calls Try.prog _ _ _ _ from among_any (some ⟨w6.heap.size, 0, none⟩) 3 3 [-1, e.f, 1001] (fun z => -2000 ≤ z ∧ z ≤ 2000) g An nn cn bs k6 _ S6'.out (by omega) I6.out (by omega) (by intro a ha; injection ha with ha; subst ha; show w6.heap.size ≠ g; omega) (by intro z hz; simp at hz; omega)) ?_
        rintro x w7 ⟨z, k7, rfl, hz, k70, k71, hs7, hg7⟩
        have D7 := Lib.hid (D6'.out.low hs7 hg7 gl)
        clear hs7 hg7 I6 D6' S6' x0 x1 x2
        have PT := D7.out.a.put he.out (i := 1) (by omega) (.int .i64 z) (e' := {e with u := z}) rfl ⟨fb, hz, (D7.out.a.2 e (List.mem_of_getElem? he.out)).p, pp.out⟩
        have D8 := Lib.hid (D7.out.app gl PT.1 PT.2)
        have yc := D7.out.a.1.cell hr7.out (i := 1) rfl
        have fz := D7.out.a.1.free (ix * 3 + 1)
        try simp only [Nat.add_zero] at yc fz D8
        clear PT
        go_wp2_with fail
        exact bodyPost_ret (v := .tuple #[.slice BA bn bc, .slice (some ⟨gA, 0, none⟩) L c]) (by simp [results, Try.results81, go_sem]) rfl ⟨s, BA, bn, bc, _, some ⟨gA, 0, none⟩, L, c, k7, rfl, SDs.out, D8.out.b, D8.out.a, D8.out.src, D8.out.gr⟩
      · skip
        have b6 := bel_alloc w6 (.cells (vals [-1, 999, 1000, 40]).toArray 2)
        have I6 := Lib.hid (ownI_lits w6 [-1, 999, 1000, 40] (by intro z hz; simp at hz; exact WalkArith.wf_i64 (by omega)) (by simp)).ints
        have D6' := Lib.hid (D6.out.below b6)
        have S6' := Lib.hid (S6.out.kept b6)
        clear b6
        go_wp2_with fail
        refine Calls.mono (show Calls Try.prog _ _ _ _ from among_any (some ⟨w6.heap.size, 0, none⟩) 4 4 [-1, 999, 1000, 40] (fun z => -2000 ≤ z ∧ z ≤ 2000) g An nn cn bs k6 _ S6'.out (by omega) I6.out (by omega) (by intro a ha; injection ha with ha; subst ha; show w6.heap.size ≠ g; omega) (by intro z hz; simp at hz; omega)) ?_
        rintro x w7 ⟨z, k7, rfl, hz, k70, k71, hs7, hg7⟩
        have D7 := Lib.hid (D6'.out.low hs7 hg7 gl)
        clear hs7 hg7 I6 D6' S6' x0 x1 x2
        have PT := D7.out.a.put he.out (i := 0) (by omega) (.int .i64 z) (e' := {e with f := z}) rfl ⟨hz, ub, (D7.out.a.2 e (List.mem_of_getElem? he.out)).p, pp.out⟩
        have D8 := Lib.hid (D7.out.app gl PT.1 PT.2)
        have yc := D7.out.a.1.cell hr7.out (i := 0) rfl
        have fz := D7.out.a.1.free (ix * 3 + 0)
        try simp only [Nat.add_zero] at yc fz D8
        clear PT
        go_wp2_with fail
        exact bodyPost_ret (v := .tuple #[.slice BA bn bc, .slice (some ⟨gA, 0, none⟩) L c]) (by simp [results, Try.results81, go_sem]) rfl ⟨s, BA, bn, bc, _, some ⟨gA, 0, none⟩, L, c, k7, rfl, SDs.out, D8.out.b, D8.out.a, D8.out.src, D8.out.gr⟩
      · have b6 := bel_alloc w6 (.cells #[] 70)
        have I6 := Lib.hid (arsO_lit w6)
        have D6' := Lib.hid (D6.out.below b6)
        have S6' := Lib.hid (S6.out.kept b6)
        clear b6
        go_wp2_with fail
        refine (l07DrawPatch_any g An nn cn bs k6 (by omega) w6.heap.size _ 0 0 [] _ S6'.out I6.out SOk.nil gl6).mono ?_
        rintro x w7 ⟨p, O, pl, pc, k7, rfl, hp, ho, k71, hs7, hg7⟩
        have D7 := Lib.hid (D6'.out.low hs7 hg7 gl)
        have PP := Lib.hid hp
        have PO := Lib.hid (show EdsO w7 w.heap.size O pl pc p from OwnR.mono ho (Nat.le_trans D6.out.gr.size (by simp)))
        clear hp ho hs7 hg7 I6 D6' S6' x0 x1 x2
        have PT := D7.out.a.put he.out (i := 2) (by omega) (.slice O pl pc) (e' := {e with A := O, n := pl, c := pc, p := p}) rfl ⟨fb, ub, PO.out, PP.out⟩
        have D8 := Lib.hid (D7.out.app gl PT.1 PT.2)
        have yc := D7.out.a.1.cell hr7.out (i := 2) rfl
        have fz := D7.out.a.1.free (ix * 3 + 2)
        try simp only [Nat.add_zero] at yc fz D8
        clear PT
        go_wp2_with fail
        exact bodyPost_ret (v := .tuple #[.slice BA bn bc, .slice (some ⟨gA, 0, none⟩) L c]) (by simp [results, Try.results81, go_sem]) rfl ⟨s, BA, bn, bc, _, some ⟨gA, 0, none⟩, L, c, k7, rfl, SDs.out, D8.out.b, D8.out.a, D8.out.src, D8.out.gr⟩
      · clear x0 x1 x2 he hr7 fb ub pp hes dL dL2 ixL
        go_wp2_with fail
        go_loopw [5] (fun s5 wr => ∃ (A : Option Addr) (N c2 : Nat) (fs : List Ac), N ≤ 9 ∧ s5 = .slice A N c2 ∧ DA w g An nn cn bs BA bn bc s TA tn tc t A N c2 fs wr k6) (fun s5 _ => 9 - lenV s5)
        case atStart => exact ⟨_, L, c, es, by omega, rfl, D6.out⟩
        case round =>
          obtain ⟨A2, N, c2, fs, hN, rfl, hd⟩ := hrel
          have D7 := Lib.hid hd
          have k7 : Nat := k6
          clear hd D6
          by_cases h8 : N ≤ 8
          · have d8 := decide_eq_true (show (N : Int) ≤ 8 by omega)
            have AX := Lib.hid (show AOk wr w.heap.size ⟨500, 501, none, 0, 0, []⟩ from ⟨⟨by decide, by decide⟩, ⟨by decide, by decide⟩, ownR_nil _ _ _ _, by intro e he; cases he⟩)
            have lwr : w.heap.size ≤ wr.heap.size := D7.out.gr.size
            go_wp2_with (at_builtin; refine app_ac1 wr rfl _ _ rfl w.heap.size A2 N c2 fs rfl D7.out.a ⟨500, 501, none, 0, 0, []⟩ AX.out rfl (by omega) lwr ?_; intro A' c' wb p1 p2; have D8 := Lib.hid (D7.out.app gl p1 p2); clear p1 p2)
            go_roundw
            case rel => exact ⟨A', N + 1, c', _, by omega, rfl, D8.out⟩
            case measure => simp [lenV]; omega
          · have d8 := decide_eq_false (show ¬ (N : Int) ≤ 8 by omega)
            go_wp2_with fail
            exact bodyPost_ret (v := .tuple #[.slice BA bn bc, .slice A2 N c2]) (by simp [results, Try.results81, go_sem]) rfl ⟨s, BA, bn, bc, fs, A2, N, c2, k6, rfl, SDs.out, D7.out.b, D7.out.a, D7.out.src, D7.out.gr⟩
end Go.Proofs.Ytcoladhppbknnaa
