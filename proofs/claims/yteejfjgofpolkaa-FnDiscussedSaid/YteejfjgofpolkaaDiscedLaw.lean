/- The law FnDiscussed, walked. -/
import Derived.Test.YteejfjgofpolkaaGrdS
import Derived.Test.YteejfjgofpolkaaDrawStr3
import Derived.Test.YteejfjgofpolkaaApp
namespace Go.Proofs.Yteejfjgofpolkaa
set_option linter.unusedVariables false
set_option linter.unusedSimpArgs false
set_option maxRecDepth 100000
open Go.RowKit Go.Deep
set_option maxHeartbeats 8000000 in
theorem fnDiscussed_walk (w : World) (A : Option Addr) (n c : Nat) (zs : List Int) (h : Ints .u8 w A n c zs) (B : Option Addr) (m d : Nat) (ys : List Int) (k : Ints .u8 w B m d ys) :
    Calls Try.prog 8 #[.slice A n c, .slice B m d] w fun e w' => e = .returned (.bool true) ∧ Below w.heap.size w w' := by
  have hn := h.short
  have hm := k.short
  by_cases h1 : (decide ((48 : Int) < n) || decide ((48 : Int) < m)) = true
  · have H1 := Lib.hid h1
    clear h1
    go_enter Try.func8, Try.ntmps8
    go_wp2_with fail
    refine (r8Long_any A n c B m d _ hn hm).mono ?_
    rintro e w1 ⟨rfl, rfl⟩
    rw [H1.out]
    go_wp2_with fail
    go_ret
    exact ⟨rfl, Below.refl _ _⟩
  · have H1 : Hid ((decide ((48 : Int) < n) || decide ((48 : Int) < m)) = false) := by show _ = _; simpa using h1
    have KY := Lib.hid k
    clear h1 k
    go_enter Try.func8, Try.ntmps8
    go_wp2_with fail
    refine (r8Long_any A n c B m d _ hn hm).mono ?_
    rintro e w1 ⟨rfl, rfl⟩
    rw [H1.out]
    go_wp2_with fail
    refine (R8Frame_any A n c zs _ h).mono ?_
    rintro e w1 ⟨N, es, Q, dq, rfl, ok, hR, b1⟩
    have n10 := ok.n10
    have OK := Lib.hid ok
    have ba := bel_alloc w1 (.cells #[.int .i64 N, .slice Q es.length dq] 26)
    have C1 := Lib.hid (Cs.new w1 [.int .i64 N, .slice Q es.length dq] 26)
    have y0 := C1.out.cell 0 rfl
    have y1 := C1.out.cell 1 rfl
    have RR := Lib.hid (hR.below ba)
    have B1 := Lib.hid (bel_trans b1 ba)
    obtain ⟨gF, hgF⟩ : ∃ r, w1.heap.size = r := ⟨_, rfl⟩
    rw [hgF] at C1 y0 y1
    clear ok hR b1 ba
    go_wp2_with fail
    refine (grdSetD_ok N es OK.out Q es.length dq _ RR.out).mono ?_
    rintro e w2 ⟨AG, cG, rfl, oG, b2⟩
    have C2 := Lib.hid (C1.out.below b2)
    have z0 := C2.out.cell 0 rfl
    have z1 := C2.out.cell 1 rfl
    have R2 := Lib.hid (RR.out.below b2)
    have B2 := Lib.hid (bel_trans B1.out b2)
    have OG := Lib.hid oG
    clear oG b2 y0 y1 B1 C1 RR
    go_wp2_with fail
    refine (R8Strategy_any N es OK.out Q es.length dq B m d ys _ R2.out (KY.out.below B2.out)).mono ?_
    rintro e w3 ⟨x0, RA, nr, rc, R, YA, ny, yc, Y, hx0, rfl, iR, iY, b3, _, _⟩
    have ba := bel_alloc w3 (.cells #[.slice RA nr rc, .slice YA ny yc] 39)
    have D3 := Lib.hid (Cs.new w3 [.slice RA nr rc, .slice YA ny yc] 39)
    have C3 := Lib.hid (C2.out.below (bel_trans b3 ba))
    have u0 := C3.out.cell 0 rfl
    have u1 := C3.out.cell 1 rfl
    have u2 := D3.out.cell 0 rfl
    have u3 := D3.out.cell 1 rfl
    have R3 := Lib.hid (R2.out.below (bel_trans b3 ba))
    have G3 := Lib.hid (OG.out.ints.below (bel_trans b3 ba))
    have B3 := Lib.hid (bel_trans B2.out (bel_trans b3 ba))
    have IR3 := Lib.hid (iR.below ba)
    have IY3 := Lib.hid (iY.below ba)
    clear z0 z1 ba b3 B2 C2 R2 OG iR iY
    have GN : ∀ x : Nat, x < N → (bitsTo (grdM N es) 10).any (· == (x : Int)) = (grdM N es).testBit x := fun x hx => bitsTo_has (by omega)
    have HGN := Lib.hid GN
    have SND := Lib.hid (fun W h1 h2 h3 => isStr_sound N es OK.out x0 Q es.length dq RA nr rc R YA ny yc Y W h1 h2 h3)
    obtain ⟨G, hG⟩ : ∃ g, bitsTo (grdM N es) 10 = g := ⟨_, rfl⟩
    rw [hG] at G3 SND HGN
    rw [hG]
    obtain ⟨w4, hw4⟩ : ∃ z, w3.alloc (.cells #[.slice RA nr rc, .slice YA ny yc] 39) = z := ⟨_, rfl⟩
    rw [hw4] at C3 R3 G3 B3 IR3 IY3 u0 u1 u2 u3
    go_upto_region 8 with fail
    clear hG GN hw4
    go_cut [50] from 23 (fun s wc => s = .bool false ∧ Below w4.heap.size w4 wc)
    case first =>
      go_wp2_with fail
      refine (SND.out _ R3.out IR3.out IY3.out).mono ?_
      rintro e w5 ⟨b, rfl, SB, b5⟩
      have HSB := Lib.hid SB
      have HB5 := Lib.hid b5
      clear SB b5 u0 u1 u2 u3
      cases b
      · go_wp2_with fail
        go_meet
        case rel => exact ⟨rfl, HB5.out⟩
      · have KE := HSB.out rfl
        have HK := Lib.hid KE
        clear KE
        go_wp2_with fail
        refine (r8Has_any AG G.length cG G x0 _ (G3.out.below HB5.out)).mono ?_
        rintro e w6 ⟨rfl, rfl⟩
        rw [HK.out]
        go_wp2_with fail
        go_meet
        case rel => exact ⟨rfl, HB5.out⟩
    case rest =>
    obtain ⟨rfl, b5⟩ := hcut
    rename World => w5
    have C5 := Lib.hid (C3.out.below b5)
    have R5 := Lib.hid (R3.out.below b5)
    have G5 := Lib.hid (G3.out.below b5)
    have B5 := Lib.hid (bel_trans B3.out b5)
    clear b5 u0 u1 u2 u3 D3 C3 R3 G3 B3 IR3 IY3 SND
    have K5 := Lib.hid (KY.out.below B5.out)
    go_wp2_with fail
    go_loopw [10] (fun t wr => ∃ x : Nat, x ≤ N ∧ t = .int .i64 x ∧ Below w5.heap.size w5 wr) (fun t _ => N - (intOf t).toNat)
    case atStart => exact ⟨0, by omega, rfl, Below.refl _ _⟩
    case round =>
      obtain ⟨x, hx, rfl, hb⟩ := hrel
      have HB := Lib.hid hb
      have C6 := Lib.hid (C5.out.below hb)
      have y0 := C6.out.cell 0 rfl
      clear hb
      by_cases hlt : x < N
      · have d0 := decide_eq_true (show (x : Int) < (N : Int) by omega)
        have y1 := C6.out.cell 1 rfl
        have R6 := Lib.hid (R5.out.below HB.out)
        cases hg : (grdM N es).testBit x
        · have HG := Lib.hid hg
          clear hg
          go_wp2_with fail
          refine (strat_no N es OK.out x hlt HG.out Q es.length dq _ R6.out).mono ?_
          rintro e w6 ⟨SA, sc, TA, tc, rfl, s1, s2, b6⟩
          have ba := bel_alloc w6 (.cells #[.slice SA 0 sc, .slice TA 0 tc] 39)
          have D7 := Lib.hid (Cs.new w6 [.slice SA 0 sc, .slice TA 0 tc] 39)
          have C7 := Lib.hid (C6.out.below (bel_trans b6 ba))
          have q0 := C7.out.cell 0 rfl
          have q1 := C7.out.cell 1 rfl
          have q2 := D7.out.cell 0 rfl
          have q3 := D7.out.cell 1 rfl
          have B7 := Lib.hid (bel_trans HB.out (bel_trans b6 ba))
          have R7 := Lib.hid (R6.out.below (bel_trans b6 ba))
          have S1 := Lib.hid (s1.below ba)
          have S2 := Lib.hid (s2.below ba)
          have GF := HGN.out x hlt
          rw [HG.out] at GF
          clear b6 ba y0 y1 s1 s2
          go_wp2_with fail
          refine (r8Has_any AG G.length cG G x _ (G5.out.below B7.out)).mono ?_
          rintro e w8 ⟨rfl, rfl⟩
          rw [GF]
          have NN := Lib.hid (show (0 : Nat) ≠ N by omega)
          have AY := Lib.hid (arg_yes OK.out hlt)
          have ff : (false != false) = false := rfl
          clear GF
          go_wp2_with fail
          refine (isStr_len1 N es OK.out x hlt AY.out Q es.length dq SA 0 sc [] TA 0 tc [] _ R7.out S1.out S2.out NN.out).mono ?_
          rintro e w8 ⟨rfl, b8⟩
          have B8 := Lib.hid (bel_trans B7.out b8)
          clear b8 q0 q1 q2 q3
          go_wp2_with fail
          go_roundw
          case rel => exact ⟨x + 1, by omega, by go_num, B8.out⟩
          case measure => simp [intOf]; omega
        · have HG := Lib.hid hg
          clear hg
          go_wp2_with fail
          refine (strat_yes N es OK.out x hlt HG.out Q es.length dq _ R6.out).mono ?_
          rintro e w6 ⟨SA, sc, TA, tc, rfl, s1, s2, st, b6⟩
          have ba := bel_alloc w6 (.cells #[.slice SA N sc, .slice TA N tc] 39)
          have D7 := Lib.hid (Cs.new w6 [.slice SA N sc, .slice TA N tc] 39)
          have C7 := Lib.hid (C6.out.below (bel_trans b6 ba))
          have q0 := C7.out.cell 0 rfl
          have q1 := C7.out.cell 1 rfl
          have q2 := D7.out.cell 0 rfl
          have q3 := D7.out.cell 1 rfl
          have B7 := Lib.hid (bel_trans HB.out (bel_trans b6 ba))
          have R7 := Lib.hid (R6.out.below (bel_trans b6 ba))
          have S1 := Lib.hid (s1.below ba)
          have S2 := Lib.hid (s2.below ba)
          have GF := HGN.out x hlt
          have ST := Lib.hid st
          rw [HG.out] at GF
          obtain ⟨R, hR⟩ : ∃ r, rkL N es x = r := ⟨_, rfl⟩
          obtain ⟨Y, hY⟩ : ∃ r, rpL N es x = r := ⟨_, rfl⟩
          rw [hR] at S1 ST
          rw [hY] at S2 ST
          obtain ⟨gS, hgS⟩ : ∃ r, w6.heap.size = r := ⟨_, rfl⟩
          rw [hgS] at D7 q2 q3
          obtain ⟨w7, hw7⟩ : ∃ z, w6.alloc (.cells #[.slice SA N sc, .slice TA N tc] 39) = z := ⟨_, rfl⟩
          have HW7 := Lib.hid hw7
          have HGS := Lib.hid hgS
          rw [hw7] at D7 q0 q1 q2 q3 C7 B7 R7 S1 S2
          clear b6 ba y0 y1 s1 s2 st hR hY hgS hw7
          go_wp2_with fail
          rw [HGS.out, HW7.out]
          refine (r8Has_any AG G.length cG G x _ (G5.out.below B7.out)).mono ?_
          rintro e w8 ⟨rfl, rfl⟩
          rw [GF]
          have AY := Lib.hid (arg_yes OK.out hlt)
          have ff : (true != true) = false := rfl
          clear GF
          go_wp2_with fail
          refine (isStr_ok N es OK.out x hlt AY.out Q es.length dq SA N sc R TA N tc Y _ R7.out S1.out S2.out).mono ?_
          rintro e w8 ⟨b, rfl, hbs, b8⟩
          obtain rfl : b = true := hbs.2 ST.out
          have B8 := Lib.hid (bel_trans B7.out b8)
          have C8 := Lib.hid (C7.out.below b8)
          have D8 := Lib.hid (D7.out.below b8)
          have R8' := Lib.hid (R7.out.below b8)
          have S1' := Lib.hid (S1.out.below b8)
          have S2' := Lib.hid (S2.out.below b8)
          clear b8 hbs q0 q1 q2 q3
          have q0 := C8.out.cell 0 rfl
          have q2 := D8.out.cell 0 rfl
          have nn : ((N : Int) != (N : Int)) = false := by simp
          have OM := Lib.hid (show OwnI (w8.alloc (.cells #[] 2)) w8.heap.size (some ⟨w8.heap.size, 0, none⟩) 0 0 [] from ownI_lits w8 [] (by simp) (by simp))
          have BM := Lib.hid (bel_alloc w8 (.cells #[] 2))
          go_wp2_with fail
          go_loopw [13, 14, 15] (fun s t u wr => ∃ (k y : Nat) (M : List Int) (MA : Option Addr) (mc : Nat), s = .slice MA k mc ∧ t = .int .i64 y ∧ u = .int .i64 k ∧ OwnI wr w8.heap.size MA k mc M ∧ Hid (DS N es x R Y M k y) ∧ Below w8.heap.size w8 wr) (fun _ _ u _ => N - (intOf u).toNat)
          case atStart => exact ⟨0, x, [], _, 0, rfl, rfl, rfl, OM.out, DS.start ST.out hlt, BM.out⟩
          case round =>
            obtain ⟨k, y, M, MA, mc, rfl, rfl, rfl, hO, hDS, hB⟩ := hrel
            have HO := Lib.hid hO
            have HB2 := Lib.hid hB
            have hs := hB.size
            have C9 := Lib.hid (C8.out.below hB)
            have D9 := Lib.hid (D8.out.below hB)
            have R9 := Lib.hid (R8'.out.below hB)
            have kN := hDS.out.lt ST.out hlt
            have yN := hDS.out.yn
            have dk := decide_eq_true (show (k : Int) < (N : Int) by omega)
            clear hO hB OM BM q0 q2
            have q0 := C9.out.cell 0 rfl
            have q1 := C9.out.cell 1 rfl
            go_wp2_with fail
            refine (attackersOf_ok N es OK.out y yN Q es.length dq _ R9.out).mono ?_
            rintro e w9 ⟨LA, lc, rfl, oL, b9⟩
            have LB := bitsTo_len (attM es y) 10
            have LM := Lib.hid (fun (i : Nat) (z : Int) (hz : (bitsTo (attM es y) 10)[i]? = some z) => (show ∃ b : Nat, z = b ∧ (b, y) ∈ es from by
              obtain ⟨b, rfl, hb, hbit⟩ := bitsTo_mem.1 (List.mem_of_getElem? hz)
              exact ⟨b, rfl, (attM_bit es y b).1 hbit⟩))
            have C10 := Lib.hid (C9.out.below b9)
            have D10 := Lib.hid (D9.out.below b9)
            have R10 := Lib.hid (R9.out.below b9)
            have HB3 := Lib.hid (bel_trans HB2.out b9)
            have O10 := Lib.hid (HO.out.below b9)
            have OL := Lib.hid oL
            have TW := Lib.hid (fun W hW => attackersOf_ok N es OK.out y yN Q es.length dq W hW)
            obtain ⟨L, hL⟩ : ∃ l, bitsTo (attM es y) 10 = l := ⟨_, rfl⟩
            simp only [hL] at LB LM OL TW
            rw [hL]
            have z9 := b9.size
            clear hL b9 oL q0 q1 HO
            by_cases hl : L.length = 0
            · have e0 : (((L.length : Nat) : Int) == 0) = true := by show decide _ = true; exact decide_eq_true (by omega)
              have q0 := C10.out.cell 0 rfl
              have q1 := C10.out.cell 1 rfl
              go_wp2_with fail
              refine (TW.out _ R10.out).mono ?_
              rintro e w10 ⟨LA2, lc2, rfl, o2, b10⟩
              have BE := Lib.hid (bel_trans B8.out (bel_trans HB3.out b10))
              clear b10 o2 q0 q1
              go_wp2_with fail
              go_roundw
              case rel => exact ⟨x + 1, by omega, by go_num, BE.out⟩
              case measure => simp [intOf]; omega
            · have e0 : (((L.length : Nat) : Int) == 0) = false := by show decide _ = false; exact decide_eq_false (by omega)
              have q0 := C10.out.cell 0 rfl
              have q1 := C10.out.cell 1 rfl
              go_wp2_with fail
              refine (r8At_any B m d ys k L.length w9 (K5.out.below (bel_trans B8.out HB3.out)) (by omega) (by omega)).mono ?_
              rintro e w10 ⟨r, rfl, hr, b10⟩
              obtain ⟨r0, r1⟩ := hr.lt (by omega)
              obtain ⟨r, rfl⟩ := Int.eq_ofNat_of_zero_le r0
              obtain ⟨lb, lo, z, rfl, _, hcell, z1, z2, hz⟩ := (OL.out.ints.below b10).at (j := r) (by omega)
              obtain ⟨bb, rfl, hbe⟩ := LM.out r z hz.out
              obtain ⟨nx, hDN, hlt2, hge⟩ := hDS.out.next OK.out ST.out hbe
              have NX := Lib.hid hDN
              have O11 := Lib.hid (O10.out.below b10)
              have HB4 := Lib.hid (bel_trans HB3.out b10)
              have ML := Lib.hid (show (M ++ [(bb : Int)]).length = k + 1 from hDN.len)
              have z10 := b10.size
              clear b10 hr hz hDN q0 q1 LM OL TW O10
              go_wp2_with (at_builtin; refine app_int_at w10 rfl _ _ rfl w8.heap.size MA k mc M rfl O11.out (bb : Int) (by omega) (by omega) rfl (by omega) HB4.out.size ?_; intro A7 c7 w11 p1 p2 p3; have P7 := Lib.hid p1; have HB5 := Lib.hid (HB4.out.grown p2 HB4.out.size (fun y hy => (O11.out.block y hy).1)); have C11 := Lib.hid (C8.out.below HB5.out); have D11 := Lib.hid (D8.out.below HB5.out); have q0 := C11.out.cell 0 rfl; have q1 := C11.out.cell 1 rfl; have q2 := D11.out.cell 0 rfl; have q3 := D11.out.cell 1 rfl; clear p1 p2 p3)
              have AY := Lib.hid (arg_yes OK.out hlt)
              have DI := Lib.hid (discI_ok N es OK.out x hlt AY.out Q es.length dq SA N sc R TA N tc Y A7 c7 (M ++ [(bb : Int)]) w11 (R8'.out.below HB5.out) (S1'.out.below HB5.out) (S2'.out.below HB5.out) (by rw [ML.out]; exact P7.out.ints))
              rw [ML.out] at DI
              have DPP := Lib.hid (NX.out.disc ST.out hlt n10)
              have EO := Lib.hid (outD_len x Y (M ++ [(bb : Int)]) (k + 1))
              have EL := Lib.hid (outD_last x Y (M ++ [(bb : Int)]) (k + 1))
              rw [NX.out.last] at EL
              obtain ⟨M', hM'⟩ : ∃ l, M ++ [(bb : Int)] = l := ⟨_, rfl⟩
              rw [hM'] at DI P7 NX ML DPP EO EL
              refine DI.out.mono ?_
              rintro e w12 ⟨zs', b', LA3, lc3, hy, _, rfl, oZ, b12⟩
              obtain ⟨hz', rfl⟩ := hy DPP.out
              rw [ML.out] at hz'
              rw [← hz'] at EO EL
              have EO1 := EO.out
              rw [EO1] at EL oZ
              rw [EO1]
              have CR := Lib.hid (oZ.ints.at (j := 2 * (k + 1)) (by omega))
              have zl : 2 * (k + 1) + 1 ≤ 100 := by omega
              have NXN := NX.out.yn
              obtain ⟨sb, so, rz, rfl, _, crz, rz1, rz2, hrz⟩ := (S1'.out.below (bel_trans HB5.out b12)).at (j := nx) NXN
              obtain ⟨sb2, so2, ry, e2, _, cry, ry1, ry2, hry⟩ := (S1'.out.below (bel_trans HB5.out b12)).at (j := y) yN
              simp only [Option.some.injEq, Addr.mk.injEq, and_true] at e2
              obtain ⟨rfl, rfl⟩ := e2
              have GZ := getD_at hrz.out
              have GY := getD_at hry.out
              rw [GZ, GY] at hlt2
              rw [GZ] at hge
              have C12 := Lib.hid ((C8.out.below HB5.out).below b12)
              have D12 := Lib.hid ((D8.out.below HB5.out).below b12)
              have B12 := Lib.hid (bel_trans HB5.out b12)
              have P12 := Lib.hid (P7.out.below b12)
              obtain ⟨zb, zo, zv, rfl, _, czv, zv1, zv2, hzv⟩ := CR.out
              have EZ := EL.out
              rw [show 2 * (k + 1) + 1 - 1 = 2 * (k + 1) by omega, hzv.out] at EZ
              injection EZ with EZ
              subst EZ
              have sE := b12.size
              clear hzv CR hrz hry GZ GY EO1 EO EL q0 q1 q2 q3 DI oZ b12 hz' hy C11 D11
              have v1 := decide_eq_false (show ¬ (nx : Int) < 0 by omega)
              have v2 := decide_eq_false (show ¬ (N : Int) ≤ (nx : Int) by omega)
              have v3 := decide_eq_false (show ¬ ry ≤ rz by omega)
              have v4 := decide_eq_false (show ¬ rz < 1 by omega)
              have n0 : (0 : Int) ≤ (nx : Int) := by omega
              have n1 : (nx : Int) < (N : Int) := by omega
              have m0 : (0 : Int) ≤ (y : Int) := by omega
              have m1 : (y : Int) < (N : Int) := by omega
              go_wp2_with fail
              refine wp_region_noPanic ?_
              refine wp_region_R (inFirst (fun W => W.cell? ⟨gF, 0, none⟩ = some (.int .i64 N) ∧ W.cell? ⟨gS, 0, none⟩ = some (.slice (some ⟨sb, so, none⟩) N sc) ∧ W.cell? ⟨sb, so + nx, none⟩ = some (.int .i64 rz) ∧ W.cell? ⟨sb, so + y, none⟩ = some (.int .i64 ry)) 29) (by kernel_rfl) ?_
              have hS : w12.drew.cell? ⟨gF, 0, none⟩ = some (.int .i64 N) ∧ w12.drew.cell? ⟨gS, 0, none⟩ = some (.slice (some ⟨sb, so, none⟩) N sc) ∧ w12.drew.cell? ⟨sb, so + nx, none⟩ = some (.int .i64 rz) ∧ w12.drew.cell? ⟨sb, so + y, none⟩ = some (.int .i64 ry) := ⟨C12.out.cell 0 rfl, D12.out.cell 0 rfl, crz, cry⟩
              refine anyR_take (i := 0) (.int .i64 nx) rfl (by kernel_rfl) (by kernel_rfl) (by kernel_rfl) (by kernel_rfl) (fun _ _ _ h => h) (by assumption) ⟨by rfl, ?_⟩ ?_
              · intro W hW
                go_simp
              try simp only [Act.put, List.setIfInBounds_toArray, List.set_cons_zero, List.set_cons_succ, List.getElem_toArray, List.getElem_cons_zero, List.getElem_cons_succ]
              refine anyR_take (i := 1) (.bool false) rfl (by kernel_rfl) (by kernel_rfl) (by kernel_rfl) (by kernel_rfl) (fun _ _ _ h => h) (by assumption) ⟨by rfl, ?_⟩ ?_
              · intro W hW
                go_simp
              try simp only [Act.put, List.setIfInBounds_toArray, List.set_cons_zero, List.set_cons_succ, List.getElem_toArray, List.getElem_cons_zero, List.getElem_cons_succ]
              refine anyR_take (i := 2) (.bool false) rfl (by kernel_rfl) (by kernel_rfl) (by kernel_rfl) (by kernel_rfl) (fun _ _ _ h => h) (by assumption) ⟨by rfl, ?_⟩ ?_
              · intro W hW
                go_simp
              try simp only [Act.put, List.setIfInBounds_toArray, List.set_cons_zero, List.set_cons_succ, List.getElem_toArray, List.getElem_cons_zero, List.getElem_cons_succ]
              refine anyR_take (i := 3) (.int .i64 nx) rfl (by kernel_rfl) (by kernel_rfl) (by kernel_rfl) (by kernel_rfl) (fun _ _ _ h => h) (by assumption) ⟨by rfl, ?_⟩ ?_
              · intro W hW
                go_simp
              try simp only [Act.put, List.setIfInBounds_toArray, List.set_cons_zero, List.set_cons_succ, List.getElem_toArray, List.getElem_cons_zero, List.getElem_cons_succ]
              refine anyR_take (i := 4) (.pointer (some ⟨gF, 0, none⟩)) rfl (by kernel_rfl) (by kernel_rfl) (by kernel_rfl) (by kernel_rfl) (fun _ _ _ h => h) (by assumption) ⟨by rfl, ?_⟩ ?_
              · intro W hW
                go_simp
              try simp only [Act.put, List.setIfInBounds_toArray, List.set_cons_zero, List.set_cons_succ, List.getElem_toArray, List.getElem_cons_zero, List.getElem_cons_succ]
              refine anyR_take (i := 5) (.int .i64 N) rfl (by kernel_rfl) (by kernel_rfl) (by kernel_rfl) (by kernel_rfl) (fun _ _ _ h => h) (by assumption) ⟨by rfl, ?_⟩ ?_
              · intro W hW
                go_simp
              try simp only [Act.put, List.setIfInBounds_toArray, List.set_cons_zero, List.set_cons_succ, List.getElem_toArray, List.getElem_cons_zero, List.getElem_cons_succ]
              refine anyR_take (i := 6) (.bool false) rfl (by kernel_rfl) (by kernel_rfl) (by kernel_rfl) (by kernel_rfl) (fun _ _ _ h => h) (by assumption) ⟨by rfl, ?_⟩ ?_
              · intro W hW
                go_simp
              try simp only [Act.put, List.setIfInBounds_toArray, List.set_cons_zero, List.set_cons_succ, List.getElem_toArray, List.getElem_cons_zero, List.getElem_cons_succ]
              refine anyR_take (i := 7) (.bool false) rfl (by kernel_rfl) (by kernel_rfl) (by kernel_rfl) (by kernel_rfl) (fun _ _ _ h => h) (by assumption) ⟨by rfl, ?_⟩ ?_
              · intro W hW
                go_simp
              try simp only [Act.put, List.setIfInBounds_toArray, List.set_cons_zero, List.set_cons_succ, List.getElem_toArray, List.getElem_cons_zero, List.getElem_cons_succ]
              refine anyR_take (i := 8) (.bool false) rfl (by kernel_rfl) (by kernel_rfl) (by kernel_rfl) (by kernel_rfl) (fun _ _ _ h => h) (by assumption) ⟨by rfl, ?_⟩ ?_
              · intro W hW
                go_simp
              try simp only [Act.put, List.setIfInBounds_toArray, List.set_cons_zero, List.set_cons_succ, List.getElem_toArray, List.getElem_cons_zero, List.getElem_cons_succ]
              refine anyR_take (i := 9) (.pointer (some ⟨gS, 0, none⟩)) rfl (by kernel_rfl) (by kernel_rfl) (by kernel_rfl) (by kernel_rfl) (fun _ _ _ h => h) (by assumption) ⟨by rfl, ?_⟩ ?_
              · intro W hW
                go_simp
              try simp only [Act.put, List.setIfInBounds_toArray, List.set_cons_zero, List.set_cons_succ, List.getElem_toArray, List.getElem_cons_zero, List.getElem_cons_succ]
              refine anyR_take (i := 10) (.slice (some ⟨sb, so, none⟩) N sc) rfl (by kernel_rfl) (by kernel_rfl) (by kernel_rfl) (by kernel_rfl) (fun _ _ _ h => h) (by assumption) ⟨by rfl, ?_⟩ ?_
              · intro W hW
                go_simp
              try simp only [Act.put, List.setIfInBounds_toArray, List.set_cons_zero, List.set_cons_succ, List.getElem_toArray, List.getElem_cons_zero, List.getElem_cons_succ]
              refine anyR_take (i := 11) (.int .i64 nx) rfl (by kernel_rfl) (by kernel_rfl) (by kernel_rfl) (by kernel_rfl) (fun _ _ _ h => h) (by assumption) ⟨by rfl, ?_⟩ ?_
              · intro W hW
                go_simp
              try simp only [Act.put, List.setIfInBounds_toArray, List.set_cons_zero, List.set_cons_succ, List.getElem_toArray, List.getElem_cons_zero, List.getElem_cons_succ]
              refine anyR_take (i := 12) (.pointer (some ⟨sb, so + nx, none⟩)) rfl (by kernel_rfl) (by kernel_rfl) (by kernel_rfl) (by kernel_rfl) (fun _ _ _ h => h) (by assumption) ⟨by rfl, ?_⟩ ?_
              · intro W hW
                go_simp
              try simp only [Act.put, List.setIfInBounds_toArray, List.set_cons_zero, List.set_cons_succ, List.getElem_toArray, List.getElem_cons_zero, List.getElem_cons_succ]
              refine anyR_take (i := 13) (.int .i64 rz) rfl (by kernel_rfl) (by kernel_rfl) (by kernel_rfl) (by kernel_rfl) (fun _ _ _ h => h) (by assumption) ⟨by rfl, ?_⟩ ?_
              · intro W hW
                go_simp
              try simp only [Act.put, List.setIfInBounds_toArray, List.set_cons_zero, List.set_cons_succ, List.getElem_toArray, List.getElem_cons_zero, List.getElem_cons_succ]
              refine anyR_take (i := 14) (.pointer (some ⟨gS, 0, none⟩)) rfl (by kernel_rfl) (by kernel_rfl) (by kernel_rfl) (by kernel_rfl) (fun _ _ _ h => h) (by assumption) ⟨by rfl, ?_⟩ ?_
              · intro W hW
                go_simp
              try simp only [Act.put, List.setIfInBounds_toArray, List.set_cons_zero, List.set_cons_succ, List.getElem_toArray, List.getElem_cons_zero, List.getElem_cons_succ]
              refine anyR_take (i := 15) (.slice (some ⟨sb, so, none⟩) N sc) rfl (by kernel_rfl) (by kernel_rfl) (by kernel_rfl) (by kernel_rfl) (fun _ _ _ h => h) (by assumption) ⟨by rfl, ?_⟩ ?_
              · intro W hW
                go_simp
              try simp only [Act.put, List.setIfInBounds_toArray, List.set_cons_zero, List.set_cons_succ, List.getElem_toArray, List.getElem_cons_zero, List.getElem_cons_succ]
              refine anyR_take (i := 16) (.int .i64 y) rfl (by kernel_rfl) (by kernel_rfl) (by kernel_rfl) (by kernel_rfl) (fun _ _ _ h => h) (by assumption) ⟨by rfl, ?_⟩ ?_
              · intro W hW
                go_simp
              try simp only [Act.put, List.setIfInBounds_toArray, List.set_cons_zero, List.set_cons_succ, List.getElem_toArray, List.getElem_cons_zero, List.getElem_cons_succ]
              refine anyR_take (i := 17) (.pointer (some ⟨sb, so + y, none⟩)) rfl (by kernel_rfl) (by kernel_rfl) (by kernel_rfl) (by kernel_rfl) (fun _ _ _ h => h) (by assumption) ⟨by rfl, ?_⟩ ?_
              · intro W hW
                go_simp
              try simp only [Act.put, List.setIfInBounds_toArray, List.set_cons_zero, List.set_cons_succ, List.getElem_toArray, List.getElem_cons_zero, List.getElem_cons_succ]
              refine anyR_take (i := 18) (.int .i64 ry) rfl (by kernel_rfl) (by kernel_rfl) (by kernel_rfl) (by kernel_rfl) (fun _ _ _ h => h) (by assumption) ⟨by rfl, ?_⟩ ?_
              · intro W hW
                go_simp
              try simp only [Act.put, List.setIfInBounds_toArray, List.set_cons_zero, List.set_cons_succ, List.getElem_toArray, List.getElem_cons_zero, List.getElem_cons_succ]
              refine anyR_take (i := 19) (.bool false) rfl (by kernel_rfl) (by kernel_rfl) (by kernel_rfl) (by kernel_rfl) (fun _ _ _ h => h) (by assumption) ⟨by rfl, ?_⟩ ?_
              · intro W hW
                go_simp
              try simp only [Act.put, List.setIfInBounds_toArray, List.set_cons_zero, List.set_cons_succ, List.getElem_toArray, List.getElem_cons_zero, List.getElem_cons_succ]
              refine anyR_take (i := 20) (.bool false) rfl (by kernel_rfl) (by kernel_rfl) (by kernel_rfl) (by kernel_rfl) (fun _ _ _ h => h) (by assumption) ⟨by rfl, ?_⟩ ?_
              · intro W hW
                go_simp
              try simp only [Act.put, List.setIfInBounds_toArray, List.set_cons_zero, List.set_cons_succ, List.getElem_toArray, List.getElem_cons_zero, List.getElem_cons_succ]
              refine anyR_take (i := 21) (.bool false) rfl (by kernel_rfl) (by kernel_rfl) (by kernel_rfl) (by kernel_rfl) (fun _ _ _ h => h) (by assumption) ⟨by rfl, ?_⟩ ?_
              · intro W hW
                go_simp
              try simp only [Act.put, List.setIfInBounds_toArray, List.set_cons_zero, List.set_cons_succ, List.getElem_toArray, List.getElem_cons_zero, List.getElem_cons_succ]
              refine anyR_take (i := 22) (.pointer (some ⟨gS, 0, none⟩)) rfl (by kernel_rfl) (by kernel_rfl) (by kernel_rfl) (by kernel_rfl) (fun _ _ _ h => h) (by assumption) ⟨by rfl, ?_⟩ ?_
              · intro W hW
                go_simp
              try simp only [Act.put, List.setIfInBounds_toArray, List.set_cons_zero, List.set_cons_succ, List.getElem_toArray, List.getElem_cons_zero, List.getElem_cons_succ]
              refine anyR_take (i := 23) (.slice (some ⟨sb, so, none⟩) N sc) rfl (by kernel_rfl) (by kernel_rfl) (by kernel_rfl) (by kernel_rfl) (fun _ _ _ h => h) (by assumption) ⟨by rfl, ?_⟩ ?_
              · intro W hW
                go_simp
              try simp only [Act.put, List.setIfInBounds_toArray, List.set_cons_zero, List.set_cons_succ, List.getElem_toArray, List.getElem_cons_zero, List.getElem_cons_succ]
              refine anyR_take (i := 24) (.int .i64 nx) rfl (by kernel_rfl) (by kernel_rfl) (by kernel_rfl) (by kernel_rfl) (fun _ _ _ h => h) (by assumption) ⟨by rfl, ?_⟩ ?_
              · intro W hW
                go_simp
              try simp only [Act.put, List.setIfInBounds_toArray, List.set_cons_zero, List.set_cons_succ, List.getElem_toArray, List.getElem_cons_zero, List.getElem_cons_succ]
              refine anyR_take (i := 25) (.pointer (some ⟨sb, so + nx, none⟩)) rfl (by kernel_rfl) (by kernel_rfl) (by kernel_rfl) (by kernel_rfl) (fun _ _ _ h => h) (by assumption) ⟨by rfl, ?_⟩ ?_
              · intro W hW
                go_simp
              try simp only [Act.put, List.setIfInBounds_toArray, List.set_cons_zero, List.set_cons_succ, List.getElem_toArray, List.getElem_cons_zero, List.getElem_cons_succ]
              refine anyR_take (i := 26) (.int .i64 rz) rfl (by kernel_rfl) (by kernel_rfl) (by kernel_rfl) (by kernel_rfl) (fun _ _ _ h => h) (by assumption) ⟨by rfl, ?_⟩ ?_
              · intro W hW
                go_simp
              try simp only [Act.put, List.setIfInBounds_toArray, List.set_cons_zero, List.set_cons_succ, List.getElem_toArray, List.getElem_cons_zero, List.getElem_cons_succ]
              refine anyR_take (i := 27) (.bool false) rfl (by kernel_rfl) (by kernel_rfl) (by kernel_rfl) (by kernel_rfl) (fun _ _ _ h => h) (by assumption) ⟨by rfl, ?_⟩ ?_
              · intro W hW
                go_simp
              try simp only [Act.put, List.setIfInBounds_toArray, List.set_cons_zero, List.set_cons_succ, List.getElem_toArray, List.getElem_cons_zero, List.getElem_cons_succ]
              refine anyR_take (i := 28) (.bool false) rfl (by kernel_rfl) (by kernel_rfl) (by kernel_rfl) (by kernel_rfl) (fun _ _ _ h => h) (by assumption) ⟨by rfl, ?_⟩ ?_
              · intro W hW
                go_simp
              try simp only [Act.put, List.setIfInBounds_toArray, List.set_cons_zero, List.set_cons_succ, List.getElem_toArray, List.getElem_cons_zero, List.getElem_cons_succ]
              refine anyR_done (by kernel_rfl) ?_ _
              refine NoPanic.normal ?_
              clear hS
              go_wp2_with fail
              go_roundw
              case rel => exact ⟨k + 1, nx, M', _, c7, rfl, rfl, by go_num, P12.out, NX, bel_trans B12.out ⟨rfl, rfl, rfl, Nat.le_refl _, fun _ _ => rfl⟩⟩
              case measure => simp [intOf]; omega
      · have xx := hx
        obtain rfl : x = N := by omega
        have d0 := decide_eq_false (show ¬ (x : Int) < (x : Int) by omega)
        go_wp2_with fail
        go_ret
        exact ⟨rfl, bel_trans B5.out HB.out⟩
end Go.Proofs.Yteejfjgofpolkaa
