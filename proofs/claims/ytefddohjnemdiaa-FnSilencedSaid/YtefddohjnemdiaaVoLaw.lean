/- The laws on delegations, walked. -/
import Derived.Test.YtefddohjnemdiaaVoQ
namespace Go.Proofs.Ytefddohjnemdiaa
set_option linter.unusedVariables false
set_option linter.unusedSimpArgs false
set_option maxRecDepth 100000
open Go.RowKit Go.Deep
theorem bpath_one {V : List Vo} {rule m : Nat} (h : Rch V [] m) (hs : spk V m = true) : bpath V rule m = [m] := by
  unfold bpath
  rw [if_pos h, bpo_stop hs]
  rfl
theorem lost_has {V : List Vo} {n m : Nat} (hm : m < n) : (zr (lostK V n)).any (· == (m : Int)) = !rb V m := by
  rw [zr_any]
  by_cases h : Rch V [] m
  · rw [rb_yes h, decide_eq_false (fun hh => (lostK_mem.1 hh).2 h)]; rfl
  · rw [rb_no h, decide_eq_true (lostK_mem.2 ⟨hm, h⟩)]; rfl
set_option maxHeartbeats 2000000 in
theorem fnConfluent_walk (w : World) (A : Option Addr) (n c : Nat) (zs : List Int) (h : Ints .u8 w A n c zs) (B : Option Addr) (m d : Nat) (ys : List Int) (k : Ints .u8 w B m d ys) :
    Calls Try.prog 4 #[.slice A n c, .slice B m d] w fun e w' => e = .returned (.bool true) ∧ Below w.heap.size w w' := by
  have hn := h.short
  have hm := k.short
  by_cases h1 : (decide ((1048576 : Int) < n) || decide ((1048576 : Int) < m)) = true
  · have H1 := Lib.hid h1
    clear h1
    go_enter Try.func4, Try.ntmps4
    go_wp2_with fail
    refine (b10Long_ok A n c B m d _ hn hm).mono ?_
    rintro e w1 ⟨rfl, rfl⟩
    rw [H1.out]
    go_wp2_with fail
    go_ret
    exact ⟨rfl, Below.refl _ _⟩
  have H1 : Hid ((decide ((1048576 : Int) < n) || decide ((1048576 : Int) < m)) = false) := by show _ = _; simpa using h1
  have HA := Lib.hid h
  have HB := Lib.hid k
  clear h1 h k
  go_enter Try.func4, Try.ntmps4
  go_wp2_with fail
  refine (b10Long_ok A n c B m d _ hn hm).mono ?_
  rintro e w1 ⟨rfl, rfl⟩
  rw [H1.out]
  go_wp2_with fail
  refine (b10Voices_any A n c zs _ HA.out).mono ?_
  rintro e w2 ⟨V, L, d2, rfl, ok, hV, b2⟩
  have OK := Lib.hid ok
  have V2 := Lib.hid hV.voV
  have B2 := Lib.hid b2
  have n1 := ok.n1
  have n12 := ok.n12
  clear ok hV b2
  go_wp2_with fail
  refine (b10At_ok B m d ys 0 V.length _ (HB.out.below B2.out) (by omega) (by omega) (by omega)).mono ?_
  rintro e w3 ⟨r, rfl, hr, b3⟩
  obtain ⟨r0, r1⟩ := hr.lt (by omega)
  obtain ⟨r, rfl⟩ := Int.eq_ofNat_of_zero_le r0
  have B3 := Lib.hid (bel_trans B2.out b3)
  have V3 := Lib.hid (V2.out.below b3)
  clear hr b3 V2 B2
  go_wp2_with fail
  refine (b10At_ok B m d ys 1 2 _ (HB.out.below B3.out) (by omega) (by omega) (by omega)).mono ?_
  rintro e w4 ⟨q, rfl, hq, b4⟩
  obtain ⟨q0, q1⟩ := hq.lt (by omega)
  obtain ⟨q, rfl⟩ := Int.eq_ofNat_of_zero_le q0
  have B4 := Lib.hid (bel_trans B3.out b4)
  have V4 := Lib.hid (V3.out.below b4)
  have q2 : q ≠ 2 := by omega
  have q3 : q ≤ 2 := by omega
  have rn : r < V.length := by omega
  clear hq b4 V3 B3
  go_wp2_with fail
  refine (pathOf_ok V OK.out q q3 r rn L V.length d2 w4 V4.out).mono ?_
  rintro e w5 ⟨P, PL, pc, rfl, oP, b5⟩
  have hPL := oP.len
  rw [zr_len] at hPL
  have HPL := Lib.hid hPL
  have P5 := Lib.hid oP
  have B5 := Lib.hid (bel_trans B4.out b5)
  have V5 := Lib.hid (V4.out.below b5)
  clear hPL oP b5 V4 B4
  go_wp2_with fail
  refine (lost_ok V OK.out L V.length d2 w5 V5.out).mono ?_
  rintro e w6 ⟨LA, LL, lc, rfl, oL, b6⟩
  have P6 := Lib.hid (P5.out.below b6)
  have HH := Lib.hid (b10Has_any LA LL lc (zr (lostK V V.length)) r w6 oL.ints)
  rw [lost_has rn] at HH
  have B6 := Lib.hid (bel_trans B5.out b6)
  have V6 := Lib.hid (V5.out.below b6)
  clear oL b6 V5 B5 P5
  by_cases hr : Rch V [] r
  · rw [rb_yes hr] at HH ⊢
    have HR := Lib.hid hr
    have e0 : ((true : Bool) == (!true)) = false := rfl
    obtain ⟨bV, oV, T, td, rfl, hbw, hc0, hc1, tiw⟩ := V6.out.at rn
    clear tiw hr
    by_cases hs : spk V r = true
    · have BP1 := Lib.hid (bpath_one (rule := q) HR.out hs)
      rw [hs] at hc0
      clear hs
      obtain rfl : 1 = PL := by have := HPL.out; rw [BP1.out] at this; exact this
      obtain ⟨gp, rfl, _, _⟩ := P6.out.form (by omega)
      have cp := P6.out.cell (j := 0) (z := (r : Int)) (by rw [BP1.out]; rfl)
      go_wp2_with fail
      refine HH.out.mono ?_
      rintro e w7 ⟨rfl, rfl⟩
      go_wp2_with fail
      go_ret
      exact ⟨rfl, B6.out⟩
    · have hs : spk V r = false := by simpa using hs
      obtain ⟨t, htl, hrt, hbp⟩ := bpath_rest OK.out (rule := q) q2 rn HR.out hs
      have BPt := Lib.hid (bpath_yes OK.out (rule := q) htl hrt)
      have HBP := Lib.hid hbp
      have HT := Lib.hid hrt
      obtain ⟨x, xs, hx⟩ : ∃ x xs, bpath V q t = x :: xs := by
        have := BPt.out.fst
        cases hh : bpath V q t with
        | nil => rw [hh] at this; cases this
        | cons x xs => exact ⟨x, xs, rfl⟩
      have ex : x = t := by have := BPt.out.fst; rw [hx] at this; simpa using this
      have HX := Lib.hid hx
      obtain ⟨u, hu⟩ : ∃ u, PL = u + 2 := ⟨xs.length, by have := HPL.out; rw [hbp, hx] at this; simpa using this.symm⟩
      subst hu
      clear hs hrt hbp hx
      subst ex
      obtain ⟨gp, rfl, _, _⟩ := P6.out.form (by omega)
      have cp := P6.out.cell (j := 1) (z := (x : Int)) (by rw [HBP.out, HX.out]; rfl)
      have dl : decide (((u + 2 : Nat) : Int) < 2) = false := decide_eq_false (by omega)
      have p1 : (1 : Int) < ((u + 2 : Nat) : Int) := by omega
      have pcap := P6.out.ints.2.1
      have pcs := P6.out.ints.2.2.1
      go_wp2_with fail
      refine HH.out.mono ?_
      rintro e w7 ⟨rfl, rfl⟩
      go_wp2_with fail
      refine (pathOf_ok V OK.out q q3 x htl _ V.length d2 w6 V6.out).mono ?_
      rintro e w8 ⟨R, RL, rc, rfl, oR, b8⟩
      rw [rb_yes HT.out]
      have hRL := oR.len
      rw [zr_len, HX.out] at hRL
      have IR8 := Lib.hid oR.ints
      have P8 := Lib.hid (P6.out.below b8)
      have B8 := Lib.hid (bel_trans B6.out b8)
      obtain rfl : RL = u + 1 := by
        have := HPL.out
        rw [HBP.out, HX.out] at this
        simp at this hRL
        omega
      have zz1 : (1 : Int) ≤ (pc : Int) := by omega
      have zz2 : (1 : Int) ≤ ((u + 2 : Nat) : Int) := by omega
      have BK := Lib.hid (Ints.backE (k := 1) (P8.out.ints) (by omega) (u + 1) (by omega) (some ⟨gp, 0 + 1, none⟩) (fun _ => rfl))
      have EQ := Lib.hid (b10Nums_eq R (u + 1) rc (some ⟨gp, 0 + 1, none⟩) (pc - 1) (zr (bpath V q x)) w8 IR8.out (by have := BK.out; rw [HBP.out] at this; exact this))
      clear oR hRL b8 pcs
      go_wp2_with fail
      refine EQ.out.mono ?_
      rintro e w9 ⟨rfl, b9⟩
      have B9 := Lib.hid (bel_trans B8.out b9)
      clear b9
      go_wp2_with fail
      go_ret
      exact ⟨rfl, B9.out⟩
  · rw [rb_no hr] at HH ⊢
    have BP0 := Lib.hid (bpath_no (rule := q) hr)
    clear hr
    obtain rfl : 0 = PL := by have := HPL.out; rw [BP0.out] at this; exact this
    go_wp2_with fail
    refine HH.out.mono ?_
    rintro e w7 ⟨rfl, rfl⟩
    go_wp2_with fail
    go_ret
    exact ⟨rfl, B6.out⟩
theorem sum_take_succ {l : List Nat} {i x : Nat} (h : l[i]? = some x) : (l.take (i + 1)).sum = (l.take i).sum + x := by
  rw [take_snoc' h, List.sum_append]
  simp
set_option maxHeartbeats 4000000 in
theorem fnConserved_walk (w : World) (A : Option Addr) (n c : Nat) (zs : List Int) (h : Ints .u8 w A n c zs) (B : Option Addr) (m d : Nat) (ys : List Int) (k : Ints .u8 w B m d ys) :
    Calls Try.prog 5 #[.slice A n c, .slice B m d] w fun e w' => e = .returned (.bool true) ∧ Below w.heap.size w w' := by
  have hn := h.short
  have hm := k.short
  by_cases h1 : (decide ((1048576 : Int) < n) || decide ((1048576 : Int) < m)) = true
  · have H1 := Lib.hid h1
    clear h1
    go_enter Try.func5, Try.ntmps5
    go_wp2_with fail
    refine (b10Long_ok A n c B m d _ hn hm).mono ?_
    rintro e w1 ⟨rfl, rfl⟩
    rw [H1.out]
    go_wp2_with fail
    go_ret
    exact ⟨rfl, Below.refl _ _⟩
  have H1 : Hid ((decide ((1048576 : Int) < n) || decide ((1048576 : Int) < m)) = false) := by show _ = _; simpa using h1
  have HA := Lib.hid h
  have HB := Lib.hid k
  clear h1 h k
  go_enter Try.func5, Try.ntmps5
  go_wp2_with fail
  refine (b10Long_ok A n c B m d _ hn hm).mono ?_
  rintro e w1 ⟨rfl, rfl⟩
  rw [H1.out]
  go_wp2_with fail
  refine (b10Voices_any A n c zs _ HA.out).mono ?_
  rintro e w2 ⟨V, L, d2, rfl, ok, hV, b2⟩
  have OK := Lib.hid ok
  have V2 := Lib.hid hV.voV
  have B2 := Lib.hid b2
  have n1 := ok.n1
  have n12 := ok.n12
  clear ok hV b2
  go_wp2_with fail
  refine (b10At_ok B m d ys 0 3 _ (HB.out.below B2.out) (by omega) (by omega) (by omega)).mono ?_
  rintro e w3 ⟨q, rfl, hq, b3⟩
  obtain ⟨q0, q1⟩ := hq.lt (by omega)
  obtain ⟨q, rfl⟩ := Int.eq_ofNat_of_zero_le q0
  have B3 := Lib.hid (bel_trans B2.out b3)
  have V3 := Lib.hid (V2.out.below b3)
  have q3 : q ≤ 2 := by omega
  clear hq b3 V2 B2
  go_wp2_with fail
  refine (weights_ok V OK.out q q3 L V.length d2 w3 V3.out).mono ?_
  rintro e w4 ⟨WA, wc, rfl, oW, b4⟩
  have W4 := Lib.hid oW
  have B4 := Lib.hid (bel_trans B3.out b4)
  have V4 := Lib.hid (V3.out.below b4)
  clear oW b4 V3 B3
  go_wp2_with fail
  refine (settle_ok V OK.out q q3 L V.length d2 w4 V4.out).mono ?_
  rintro e w5 ⟨EA, ec, rfl, oE, b5⟩
  have E5 := Lib.hid oE
  have W5 := Lib.hid (W4.out.below b5)
  have B5 := Lib.hid (bel_trans B4.out b5)
  have V5 := Lib.hid (V4.out.below b5)
  clear oE b5 V4 B4 W4
  go_wp2_with fail
  refine (lost_ok V OK.out L V.length d2 w5 V5.out).mono ?_
  rintro e w6 ⟨LA, LL, lc, rfl, oL, b6⟩
  have L6 := Lib.hid oL.ints
  have HLL := Lib.hid oL.len
  have E6 := Lib.hid (E5.out.ints.below b6)
  have W6 := Lib.hid (W5.out.ints.below b6)
  have B6 := Lib.hid (bel_trans B5.out b6)
  have V6 := Lib.hid (V5.out.below b6)
  clear oL b6 V5 B5 W5 E5
  have SUM := Lib.hid (wt_sum OK.out q V.length (Nat.le_refl _))
  go_wp2_with fail
  go_loopw [13, 14] (fun s t wr => ∃ i : Nat, i ≤ V.length ∧ s = .int .i64 (((lostK V V.length).length + ((wtK V q V.length).take i).sum : Nat) : Int) ∧ t = .int .i64 i ∧ Below w6.heap.size w6 wr) (fun _ t _ => V.length - (intOf t).toNat)
  case atStart => exact ⟨0, Nat.zero_le _, by have := HLL.out; rw [zr_len] at this; rw [this]; simp, rfl, Below.refl _ _⟩
  case round =>
    obtain ⟨i, hi, rfl, rfl, hb⟩ := hrel
    have HBr := Lib.hid hb
    clear hb
    by_cases hlt : i < V.length
    · have d0 := decide_eq_true (show (i : Int) < (V.length : Int) by omega)
      have i0 : (0 : Int) ≤ (i : Int) := by omega
      have i1 : (i : Int) < (V.length : Int) := by omega
      have WI := Lib.hid (W6.out.below HBr.out)
      have EI := Lib.hid (E6.out.below HBr.out)
      have LI := Lib.hid (L6.out.below HBr.out)
      have VI := Lib.hid (V6.out.below HBr.out)
      obtain ⟨bW, oW, zW, rfl, hbW, cW, _, _, hzW⟩ := WI.out.at hlt
      obtain ⟨bE, oE, zE, rfl, _, cE, _, _, hzE⟩ := EI.out.at hlt
      obtain ⟨bV, oV, T, td, rfl, hbw, hc0, hc1, tiw⟩ := VI.out.at hlt
      have hzW' := hzW.out
      have hzE' := hzE.out
      rw [zr_at (wtK_at hlt)] at hzW'
      rw [settleK_at hlt] at hzE'
      obtain rfl : ((wtN V q V.length i : Nat) : Int) = zW := by injection hzW'
      obtain rfl : endZ V q i = zE := by injection hzE'
      have wl := wtN_le V q V.length i
      have SS := Lib.hid (sum_take_succ (wtK_at (V := V) (rule := q) (k := V.length) hlt))
      have sb : (lostK V V.length).length + ((wtK V q V.length).take i).sum ≤ 12 := by
        have h1 : ((wtK V q V.length).take i).sum ≤ (wtK V q V.length).sum := by
          conv => rhs; rw [← List.take_append_drop i (wtK V q V.length), List.sum_append]
          omega
        have := SUM.out
        omega
      obtain ⟨sm, hsm⟩ : ∃ x, (lostK V V.length).length + ((wtK V q V.length).take i).sum = x := ⟨_, rfl⟩
      have HSM := Lib.hid hsm
      rw [hsm] at sb ⊢
      have WS := Lib.hid (fun hs => wt_silent OK.out q (j := i) hs V.length (Nat.le_refl _))
      have TW := Lib.hid (fun hs => thru_wt OK.out q (m := i) hs V.length (Nat.le_refl _))
      have WW := Lib.hid (show ∃ x, wtN V q V.length i = x from ⟨_, rfl⟩)
      obtain ⟨x, hx⟩ := WW.out
      have HX := Lib.hid hx
      rw [hx] at cW wl WS TW SS
      have ews : IntKind.i64.wrap ((sm : Int) + (x : Int)) = (sm : Int) + (x : Int) := IntWalk.i64_in _ (by omega)
      have TH := Lib.hid (through_ok V OK.out q q3 i hlt (some ⟨bV, oV, none⟩) V.length d2)
      have HH := Lib.hid (fun W (hW : Ints .i64 W LA LL lc (zr (lostK V V.length))) => b10Has_any LA LL lc (zr (lostK V V.length)) i W hW)
      rw [lost_has hlt] at HH
      obtain ⟨ez, hez⟩ : ∃ z, endZ V q i = z := ⟨_, rfl⟩
      have EC := endZ_cases OK.out q hlt
      rw [hez] at cE EC
      obtain ⟨bs, hbs⟩ : ∃ b, spk V i = b := ⟨_, rfl⟩
      rw [hbs] at hc0 WS TW
      have HEZ : rb V i = !decide (ez < 0) := by
        rcases EC with ⟨h1, h2⟩ | ⟨h1, o, _, _, h2, _⟩
        · rw [rb_no h1, h2]; rfl
        · rw [rb_yes h1, decide_eq_false (by omega)]; rfl
      rw [HEZ, Bool.not_not] at HH
      obtain ⟨bz, hbz⟩ : ∃ b, decide (ez < 0) = b := ⟨_, rfl⟩
      rw [hbz] at HH
      have bne_self : (bz != bz) = false := by cases bz <;> rfl
      clear hzW' hzE' hzW hzE tiw hsm hx hez EC hbs HEZ WW
      cases bs
      · have x0 : x = 0 := WS.out rfl
        have x1 : ((x : Int) != 0) = false := by rw [x0]; rfl
        clear x0
        go_wp2_with fail
        go_quiet ((go_at_call 12; exact quiet_left (HH.out _ (by exact LI.out))))
        have BQ := Lib.hid (fun q => below_drewN HBr.out q)
        go_wp2_with fail
        refine (TH.out _ (V6.out.below (BQ.out _))).mono ?_
        rintro e w8 ⟨TA, TL, tc, rfl, oT, b8⟩
        have hTL := oT.len
        rw [zr_len] at hTL
        have HTL := Lib.hid hTL
        have hc08 := (b8.cell (p := ⟨bV, oV + i * 2, none⟩) hbw).trans hc0
        have cW8 := (b8.cell (p := ⟨bW, oW + i, none⟩) hbW).trans cW
        have B8 := Lib.hid (bel_trans (BQ.out _) b8)
        clear oT hTL b8
        go_wp2_with fail
        go_roundw
        case rel => exact ⟨i + 1, by omega, by rw [SS.out, ← Nat.add_assoc, HSM.out]; push_cast; rfl, by go_num, B8.out⟩
        case measure => simp [intOf]; omega
      · have tx := TW.out rfl
        go_wp2_with fail
        go_quiet ((go_at_call 12; exact quiet_left (HH.out _ (by exact LI.out))))
        have BQ := Lib.hid (fun q => below_drewN HBr.out q)
        go_wp2_with fail
        refine (TH.out _ (V6.out.below (BQ.out _))).mono ?_
        rintro e w8 ⟨TA, TL, tc, rfl, oT, b8⟩
        have hTL := oT.len
        rw [zr_len] at hTL
        have HTL := Lib.hid hTL
        have hc08 := (b8.cell (p := ⟨bV, oV + i * 2, none⟩) hbw).trans hc0
        have cW8 := (b8.cell (p := ⟨bW, oW + i, none⟩) hbW).trans cW
        have B8 := Lib.hid (bel_trans (BQ.out _) b8)
        clear oT hTL b8
        obtain rfl : TL = x := by have := HTL.out; omega
        have ex : ((TL : Int) != (TL : Int)) = false := by simp
        go_wp2_with fail
        go_roundw
        case rel => exact ⟨i + 1, by omega, by rw [SS.out, ← Nat.add_assoc, HSM.out]; push_cast; rfl, by go_num, B8.out⟩
        case measure => simp [intOf]; omega
    · obtain rfl : V.length = i := by omega
      have d0 := decide_eq_false (show ¬ (V.length : Int) < (V.length : Int) by omega)
      rw [List.take_of_length_le (by rw [wtK_len]; omega)]
      have SUM2 : ((((lostK V V.length).length + (wtK V q V.length).sum : Nat) : Int) == (V.length : Int)) = true := by rw [beq_iff_eq]; have := SUM.out; omega
      have SUM3 : (lostK V V.length).length + (wtK V q V.length).sum = V.length := by have := SUM.out; omega
      rw [SUM3]
      clear SUM2 SUM3
      have B7 := Lib.hid (bel_trans B6.out HBr.out)
      go_wp2_with fail
      go_ret
      exact ⟨by first | rfl | simp, B7.out⟩
set_option maxHeartbeats 4000000 in
theorem fnSilenced_walk (w : World) (A : Option Addr) (n c : Nat) (zs : List Int) (h : Ints .u8 w A n c zs) (B : Option Addr) (m d : Nat) (ys : List Int) (k : Ints .u8 w B m d ys) :
    Calls Try.prog 3 #[.slice A n c, .slice B m d] w fun e w' => e = .returned (.bool true) ∧ Below w.heap.size w w' := by
  have hn := h.short
  have hm := k.short
  by_cases h1 : (decide ((1048576 : Int) < n) || decide ((1048576 : Int) < m)) = true
  · have H1 := Lib.hid h1
    clear h1
    go_enter Try.func3, Try.ntmps3
    go_wp2_with fail
    refine (b10Long_ok A n c B m d _ hn hm).mono ?_
    rintro e w1 ⟨rfl, rfl⟩
    rw [H1.out]
    go_wp2_with fail
    go_ret
    exact ⟨rfl, Below.refl _ _⟩
  have H1 : Hid ((decide ((1048576 : Int) < n) || decide ((1048576 : Int) < m)) = false) := by show _ = _; simpa using h1
  have HA := Lib.hid h
  have HB := Lib.hid k
  clear h1 h k
  go_enter Try.func3, Try.ntmps3
  go_wp2_with fail
  refine (b10Long_ok A n c B m d _ hn hm).mono ?_
  rintro e w1 ⟨rfl, rfl⟩
  rw [H1.out]
  go_wp2_with fail
  refine (b10Voices_any A n c zs _ HA.out).mono ?_
  rintro e w2 ⟨V, L, d2, rfl, ok, hV, b2⟩
  have OK := Lib.hid ok
  have V2 := Lib.hid hV.voV
  have B2 := Lib.hid b2
  have n1 := ok.n1
  have n12 := ok.n12
  clear ok hV b2
  go_wp2_with fail
  refine (b10At_ok B m d ys 0 V.length _ (HB.out.below B2.out) (by omega) (by omega) (by omega)).mono ?_
  rintro e w3 ⟨r, rfl, hr, b3⟩
  obtain ⟨r0, r1⟩ := hr.lt (by omega)
  obtain ⟨r, rfl⟩ := Int.eq_ofNat_of_zero_le r0
  have B3 := Lib.hid (bel_trans B2.out b3)
  have V3 := Lib.hid (V2.out.below b3)
  clear hr b3 V2 B2
  go_wp2_with fail
  refine (b10At_ok B m d ys 1 3 _ (HB.out.below B3.out) (by omega) (by omega) (by omega)).mono ?_
  rintro e w4 ⟨q, rfl, hq, b4⟩
  obtain ⟨q0, q1⟩ := hq.lt (by omega)
  obtain ⟨q, rfl⟩ := Int.eq_ofNat_of_zero_le q0
  have B4 := Lib.hid (bel_trans B3.out b4)
  have V4 := Lib.hid (V3.out.below b4)
  have q3 : q ≤ 2 := by omega
  have rn : r < V.length := by omega
  have SX := Lib.hid (silence_ok V OK.out r rn L V.length d2 w4 V4.out)
  clear hq b4 V3 B3
  obtain ⟨bV, oV, T, td, rfl, hbw, hc0, hc1, tiw⟩ := V4.out.at rn
  clear tiw
  by_cases hs : spk V r = true
  · rw [hs] at hc0
    have HS := Lib.hid hs
    clear hs
    go_wp2_with fail
    refine SX.out.mono ?_
    rintro e w5 ⟨X, xc, rfl, hX, b5⟩
    have hl := hX.len
    have X5 := Lib.hid hX.voV
    have V5 := Lib.hid (V4.out.below b5)
    have B5 := Lib.hid (bel_trans B4.out b5)
    have OKX := Lib.hid (sil_ok OK.out r)
    have LX := Lib.hid (sil_len V r)
    clear hX b5 V4 B4 hc0 hc1 SX hl
    go_wp2_with fail
    refine (weights_ok V OK.out q q3 _ V.length d2 w5 V5.out).mono ?_
    rintro e w6 ⟨W1, c1, rfl, o1, b6⟩
    have O6 := Lib.hid o1
    have V6 := Lib.hid (V5.out.below b6)
    have X6 := Lib.hid (X5.out.below b6)
    have B6 := Lib.hid (bel_trans B5.out b6)
    clear o1 b6 V5 X5 B5
    go_wp2_with fail
    refine (weights_ok (sil V r) OKX.out q q3 X V.length xc w6 X6.out).mono ?_
    rintro e w7 ⟨W2, c2, rfl, o2, b7⟩
    have P7 := Lib.hid o2.ints
    have O7 := Lib.hid (O6.out.ints.below b7)
    have V7 := Lib.hid (V6.out.below b7)
    have X7 := Lib.hid (X6.out.below b7)
    have B7 := Lib.hid (bel_trans B6.out b7)
    clear o2 b7 V6 X6 B6 O6
    have rZ : (r : Int) < (V.length : Int) := by omega
    have rz0 : (0 : Int) ≤ (r : Int) := by omega
    obtain ⟨bP, oP, zP, rfl, hbP, cP, _, _, hzP⟩ := P7.out.at rn
    have hzP' := hzP.out
    rw [zr_at (wtK_at (by rw [LX.out]; exact rn)), wt_silent OKX.out q (sil_spk_m V r) V.length (by rw [LX.out]; exact Nat.le_refl _)] at hzP'
    obtain rfl : ((0 : Nat) : Int) = zP := by injection hzP'
    clear hzP' hzP
    go_wp2_with fail
    go_loopw [16] (fun t wr => ∃ i : Nat, i ≤ V.length ∧ t = .int .i64 i ∧ Below w7.heap.size w7 wr) (fun t _ => V.length - (intOf t).toNat)
    case atStart => exact ⟨0, Nat.zero_le _, rfl, Below.refl _ _⟩
    case round =>
      obtain ⟨i, hi, rfl, hb⟩ := hrel
      have HBr := Lib.hid hb
      clear hb cP
      by_cases hlt : i < V.length
      · have d0 := decide_eq_true (show (i : Int) < (V.length : Int) by omega)
        have i0 : (0 : Int) ≤ (i : Int) := by omega
        have i1 : (i : Int) < (V.length : Int) := by omega
        have PI := Lib.hid (P7.out.below HBr.out)
        have OI := Lib.hid (O7.out.below HBr.out)
        obtain ⟨b1, f1, z1, rfl, _, k1, _, _, hz1⟩ := OI.out.at hlt
        obtain ⟨b2, f2, z2, e2, _, k2, _, _, hz2⟩ := PI.out.at hlt
        injection e2 with e2
        injection e2 with e2a e2b
        subst e2a
        subst e2b
        have hz1' := hz1.out
        have hz2' := hz2.out
        rw [zr_at (wtK_at hlt)] at hz1'
        rw [zr_at (wtK_at (by rw [LX.out]; exact hlt))] at hz2'
        obtain rfl : ((wtN V q V.length i : Nat) : Int) = z1 := by injection hz1'
        obtain rfl : ((wtN (sil V r) q V.length i : Nat) : Int) = z2 := by injection hz2'
        have WI := Lib.hid (fun hne => sil_wt OK.out q (j := i) HS.out hne V.length (Nat.le_refl _))
        obtain ⟨x, hx⟩ : ∃ x, wtN V q V.length i = x := ⟨_, rfl⟩
        obtain ⟨y, hy⟩ : ∃ y, wtN (sil V r) q V.length i = y := ⟨_, rfl⟩
        rw [hx, hy] at WI
        rw [hx] at k1
        rw [hy] at k2
        have QP := Lib.hid (pathOf_ok V OK.out q q3 i hlt (some ⟨bV, oV, none⟩) V.length d2)
        have QX := Lib.hid (pathOf_ok (sil V r) OKX.out q q3 i (by rw [LX.out]; exact hlt) X V.length xc)
        have VI := Lib.hid (V7.out.below HBr.out)
        clear hz1 hz2 hz1' hz2' hx hy
        by_cases hir : i = r
        · have e1 : ((i : Int) != (r : Int)) = false := by simp [hir]
          have e2 : decide ((i : Int) = (r : Int)) = true := by simp [hir]
          clear hir
          go_wp2_with fail
          go_quiet (fail)
          have BQ := Lib.hid (fun q => below_drewN HBr.out q)
          go_wp2_with fail
          refine (QP.out _ (V7.out.below (BQ.out _))).mono ?_
          rintro e w8 ⟨P1, L1, pc1, rfl, p1, b8⟩
          have X8 := Lib.hid ((X7.out.below (BQ.out _)).below b8)
          have B8 := Lib.hid (bel_trans (BQ.out _) b8)
          have P1o := Lib.hid p1
          clear p1 b8
          go_wp2_with fail
          refine (QX.out _ X8.out).mono ?_
          rintro e w9 ⟨P2, L2, pc2, rfl, p2, b9⟩
          have IP1 := Lib.hid (P1o.out.ints.below b9)
          have IP2 := Lib.hid p2.ints
          have hl1 := P1o.out.len
          have hl2 := p2.len
          rw [zr_len] at hl1 hl2
          have HL1 := Lib.hid hl1
          have HL2 := Lib.hid hl2
          have B9 := Lib.hid (bel_trans B8.out b9)
          have HH := Lib.hid (b10Has_any P1 L1 pc1 (zr (bpath V q i)) r w9 IP1.out)
          rw [zr_any] at HH
          clear p2 b9 X8 P1o hl1 hl2
          by_cases hr : Rch V [] i
          · by_cases hmem : r ∈ bpath V q i
            · rw [rb_yes hr]
              rw [decide_eq_true hmem] at HH
              clear hr hmem
              obtain ⟨bx, hbx⟩ : ∃ b, rb (sil V r) i = b := ⟨_, rfl⟩
              rw [hbx]
              clear hbx
              go_wp2_with fail
              refine HH.out.mono ?_
              rintro e w10 ⟨rfl, rfl⟩
              go_wp2_with fail
              go_roundw
              case rel => exact ⟨i + 1, by omega, by go_num, B9.out⟩
              case measure => simp [intOf]; omega
            · obtain ⟨hr2, hpe⟩ := sil_path OK.out (rule := q) hlt hr hmem
              rw [rb_yes hr, rb_yes hr2]
              rw [decide_eq_false hmem] at HH
              have IP3 := IP2.out
              rw [hpe] at IP3
              obtain rfl : L1 = L2 := by rw [← HL1.out, ← HL2.out, hpe]
              have EQ := Lib.hid (b10Nums_eq P1 L1 pc1 P2 pc2 (zr (bpath V q i)) w9 IP1.out IP3)
              clear hr hmem hr2 hpe IP3
              go_wp2_with fail
              refine HH.out.mono ?_
              rintro e w10 ⟨rfl, rfl⟩
              go_wp2_with fail
              refine EQ.out.mono ?_
              rintro e w11 ⟨rfl, b11⟩
              have B11 := Lib.hid (bel_trans B9.out b11)
              clear b11
              go_wp2_with fail
              go_roundw
              case rel => exact ⟨i + 1, by omega, by go_num, B11.out⟩
              case measure => simp [intOf]; omega
          · rw [rb_no hr]
            clear hr
            obtain ⟨bx, hbx⟩ : ∃ b, rb (sil V r) i = b := ⟨_, rfl⟩
            rw [hbx]
            clear hbx
            go_wp2_with fail
            go_roundw
            case rel => exact ⟨i + 1, by omega, by go_num, B9.out⟩
            case measure => simp [intOf]; omega
        · have e1 : ((i : Int) != (r : Int)) = true := by simp; omega
          have e2 : decide ((i : Int) = (r : Int)) = false := decide_eq_false (by omega)
          have hle := WI.out hir
          have e3 : decide ((y : Int) < (x : Int)) = false := decide_eq_false (by omega)
          clear hir
          go_wp2_with fail
          go_quiet (fail)
          have BQ := Lib.hid (fun q => below_drewN HBr.out q)
          go_wp2_with fail
          refine (QP.out _ (V7.out.below (BQ.out _))).mono ?_
          rintro e w8 ⟨P1, L1, pc1, rfl, p1, b8⟩
          have X8 := Lib.hid ((X7.out.below (BQ.out _)).below b8)
          have B8 := Lib.hid (bel_trans (BQ.out _) b8)
          have P1o := Lib.hid p1
          clear p1 b8
          go_wp2_with fail
          refine (QX.out _ X8.out).mono ?_
          rintro e w9 ⟨P2, L2, pc2, rfl, p2, b9⟩
          have IP1 := Lib.hid (P1o.out.ints.below b9)
          have IP2 := Lib.hid p2.ints
          have hl1 := P1o.out.len
          have hl2 := p2.len
          rw [zr_len] at hl1 hl2
          have HL1 := Lib.hid hl1
          have HL2 := Lib.hid hl2
          have B9 := Lib.hid (bel_trans B8.out b9)
          have HH := Lib.hid (b10Has_any P1 L1 pc1 (zr (bpath V q i)) r w9 IP1.out)
          rw [zr_any] at HH
          clear p2 b9 X8 P1o hl1 hl2
          by_cases hr : Rch V [] i
          · by_cases hmem : r ∈ bpath V q i
            · rw [rb_yes hr]
              rw [decide_eq_true hmem] at HH
              clear hr hmem
              obtain ⟨bx, hbx⟩ : ∃ b, rb (sil V r) i = b := ⟨_, rfl⟩
              rw [hbx]
              clear hbx
              go_wp2_with fail
              refine HH.out.mono ?_
              rintro e w10 ⟨rfl, rfl⟩
              go_wp2_with fail
              go_roundw
              case rel => exact ⟨i + 1, by omega, by go_num, B9.out⟩
              case measure => simp [intOf]; omega
            · obtain ⟨hr2, hpe⟩ := sil_path OK.out (rule := q) hlt hr hmem
              rw [rb_yes hr, rb_yes hr2]
              rw [decide_eq_false hmem] at HH
              have IP3 := IP2.out
              rw [hpe] at IP3
              obtain rfl : L1 = L2 := by rw [← HL1.out, ← HL2.out, hpe]
              have EQ := Lib.hid (b10Nums_eq P1 L1 pc1 P2 pc2 (zr (bpath V q i)) w9 IP1.out IP3)
              clear hr hmem hr2 hpe IP3
              go_wp2_with fail
              refine HH.out.mono ?_
              rintro e w10 ⟨rfl, rfl⟩
              go_wp2_with fail
              refine EQ.out.mono ?_
              rintro e w11 ⟨rfl, b11⟩
              have B11 := Lib.hid (bel_trans B9.out b11)
              clear b11
              go_wp2_with fail
              go_roundw
              case rel => exact ⟨i + 1, by omega, by go_num, B11.out⟩
              case measure => simp [intOf]; omega
          · rw [rb_no hr]
            clear hr
            obtain ⟨bx, hbx⟩ : ∃ b, rb (sil V r) i = b := ⟨_, rfl⟩
            rw [hbx]
            clear hbx
            go_wp2_with fail
            go_roundw
            case rel => exact ⟨i + 1, by omega, by go_num, B9.out⟩
            case measure => simp [intOf]; omega
      · obtain rfl : V.length = i := by omega
        have d0 := decide_eq_false (show ¬ (V.length : Int) < (V.length : Int) by omega)
        have B9 := Lib.hid (bel_trans B7.out HBr.out)
        go_wp2_with fail
        go_ret
        exact ⟨rfl, B9.out⟩
  · have hs : spk V r = false := by simpa using hs
    rw [hs] at hc0
    clear hs
    go_wp2_with fail
    refine SX.out.mono ?_
    rintro e w5 ⟨X, xc, rfl, hX, b5⟩
    obtain ⟨bX, oX, TX, dX, rfl, hbx, x0, x1, _⟩ := hX.voV.at rn
    rw [sil_spk_m] at x0
    rw [sil_trs_m] at x1
    have B5 := Lib.hid (bel_trans B4.out b5)
    have rZ : (r : Int) < (V.length : Int) := by omega
    have rz0 : (0 : Int) ≤ (r : Int) := by omega
    clear hX b5 SX hc0 hc1
    go_wp2_with fail
    go_ret
    exact ⟨by first | rfl | simp, B5.out⟩
end Go.Proofs.Ytefddohjnemdiaa
