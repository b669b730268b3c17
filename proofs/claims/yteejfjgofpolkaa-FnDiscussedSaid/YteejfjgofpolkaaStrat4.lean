/- The reference's strategy for an argument: the walk, and both sides together. -/
import Derived.Test.YteejfjgofpolkaaStrat3
namespace Go.Proofs.Yteejfjgofpolkaa
set_option linter.unusedVariables false
set_option linter.unusedSimpArgs false
set_option maxRecDepth 100000
open Go.RowKit Go.Deep
theorem stratS_out (n : Nat) (es : List (Nat × Nat)) (ok : FrOk n es) (a : Nat) (ha : a < n) (hv : (frB n (es.map erow) && inR a 0 ((n : Int) - 1)) = true) (hb : (grdM n es).testBit a = false) (A : Option Addr) (m c : Nat) (w : World) (h : Rws w A m c (es.map erow)) :
    Calls Try.prog 30 #[.agg #[.int .i64 n, .slice A m c], .int .i64 a] w (GivesT [] [] false w) := by
  have b0 := bel_alloc w (.cells #[.int .i64 n, .slice A m c] 26)
  have C0 := Cs.new w [.int .i64 n, .slice A m c] 26
  have b1 := bel_alloc (w.alloc (.cells #[.int .i64 n, .slice A m c] 26)) (.cells #[.slice none 0 0, .slice none 0 0] 39)
  have CT := Lib.hid (Cs.new (w.alloc (.cells #[.int .i64 n, .slice A m c] 26)) [.slice none 0 0, .slice none 0 0] 39)
  rw [show (w.alloc (.cells #[.int .i64 n, .slice A m c] 26)).heap.size = w.heap.size + 1 by simp] at CT
  have n10 := ok.n10
  have OK := Lib.hid ok
  have H := Lib.hid h
  have B0 := Lib.hid (bel_trans b0 b1)
  have HC := Lib.hid (C0.below b1)
  have SZ := Lib.hid (show ((w.alloc (.cells #[.int .i64 n, .slice A m c] 26)).alloc (.cells #[.slice none 0 0, .slice none 0 0] 39)).heap.size = w.heap.size + 2 by simp)
  have V := Lib.hid (l08Has_any n a (es.map erow) _ A m c _ HC.out (h.below B0.out))
  rw [hv] at V
  have GB := Lib.hid hb
  have a0 : (0 : Int) ≤ (a : Int) := by omega
  have a1 : (a : Int) < (n : Int) := by omega
  clear h C0 b0 b1 hv hb ok
  go_enter Try.func30, Try.ntmps30
  go_wp2_with fail
  refine V.out.mono ?_
  rintro e w1 ⟨rfl, u1⟩
  have BT := Lib.hid (bel_trans B0.out u1)
  replace CT := Lib.hid (CT.out.below u1)
  replace HC := Lib.hid (HC.out.below u1)
  clear u1 V
  go_wp2_with fail
  refine (l08Of_ok n es OK.out _ A m c _ HC.out (H.out.below BT.out)).mono ?_
  rintro e w2 ⟨g, rfl, hg, u2⟩
  replace BT := Lib.hid (bel_trans BT.out u2)
  replace CT := Lib.hid (CT.out.below u2)
  have G2 := Lib.hid hg
  clear hg u2
  go_wp2_with fail
  refine (specRounds_ok n es OK.out g _ G2.out).mono ?_
  rintro e w3 ⟨A3, c3, F, rfl, o3, hF, u3⟩
  have NF : ¬ 0 < F a := by
    have := acc_bit F ha
    rw [grdM_eq OK.out hF, GB.out] at this
    simpa using this.symm
  replace BT := Lib.hid (bel_trans BT.out u3)
  replace CT := Lib.hid (CT.out.below u3)
  obtain ⟨g3, rfl, _, _⟩ := o3.form (by omega)
  have ca := o3.cell (lst_at F ha)
  obtain ⟨y, hy⟩ : ∃ y, F a = y := ⟨_, rfl⟩
  rw [hy] at ca NF
  have hd1 := decide_eq_true (show y ≤ 0 by omega)
  clear o3 hF u3 hy
  have K1 := CT.out
  have f0 := K1.free 0 rfl
  have f1 := K1.free 1 rfl
  have p0 := K1.cell 0 rfl
  have p1 := K1.cell 1 rfl
  have K2 := Lib.hid ((K1.set 0 (.slice none 0 0) (by simp)).set 1 (.slice none 0 0) (by simp))
  have BE := Lib.hid ((BT.out.setCell (p := ⟨w.heap.size + 1, 0, none⟩) (by simp) (.slice none 0 0)).setCell (p := ⟨w.heap.size + 1, 1, none⟩) (by simp) (.slice none 0 0))
  clear K1
  go_wp2_with fail
  have r0 := K2.out.cell 0 (v := .slice none 0 0) (by simp)
  have r1 := K2.out.cell 1 (v := .slice none 0 0) (by simp)
  exact bodyPost_ret (v := .tuple #[.agg #[.slice none 0 0, .slice none 0 0], .bool false]) (by simp [results, Try.results30, go_sem, r0, r1]) rfl (givesT_no BE.out)
theorem rk_max {F : Nat → Int} {a : Nat} (h : 0 < F a) (k : Nat) : rkF F a k = if F a < (if F k < 0 then 0 else F k) then 0 else (if F k < 0 then 0 else F k) := by
  unfold rkF
  by_cases h1 : F k < 0
  · rw [if_pos (.inr h1), if_pos h1]; split <;> rfl
  · rw [if_neg h1]
    by_cases h2 : F a < F k
    · rw [if_pos (.inl h2), if_pos h2]
    · rw [if_neg (by omega), if_neg h2]
theorem sp_step0 {w wL wr : World} {g : Nat} {A1 A2 A7 : Option Addr} {k1 c1 n7 c7 k2 c2 : Nat} {z1 z2 z7 : List Int} {w7 : World} (s4 : SI wr wL.heap.size g A1 k1 c1 z1 A2 k2 c2 z2) (bb : Below wL.heap.size wL wr) (hg : wL.heap.size ≤ g)
    (p1 : OwnI w7 wL.heap.size A7 n7 c7 z7) (p2 : wr.grownBy w7 (Value.slice A1 k1 c1).ownBlock) (p3 : NewBlk wr (.slice A1 k1 c1) (.slice A7 n7 c7)) :
    Cs w7 g [.slice A1 k1 c1, .slice A2 k2 c2] ∧ SI (w7.setCell ⟨g, 0, none⟩ (.slice A7 n7 c7)) wL.heap.size g A7 n7 c7 z7 A2 k2 c2 z2 ∧ Below wL.heap.size wL (w7.setCell ⟨g, 0, none⟩ (.slice A7 n7 c7)) := by
  obtain ⟨q1, q2⟩ := s4.app0 p1 p2 p3
  exact ⟨q1, q2, (bb.grown p2 bb.size (fun x hx => (s4.o1.block x hx).1)).setCell (p := ⟨g, 0, none⟩) hg _⟩
theorem sp_step1 {w wL wr : World} {g : Nat} {A1 A2 A7 : Option Addr} {k1 c1 n7 c7 k2 c2 : Nat} {z1 z2 z7 : List Int} {w7 : World} (s4 : SI wr wL.heap.size g A1 k1 c1 z1 A2 k2 c2 z2) (bb : Below wL.heap.size wL wr) (hg : wL.heap.size ≤ g)
    (p1 : OwnI w7 wL.heap.size A7 n7 c7 z7) (p2 : wr.grownBy w7 (Value.slice A2 k2 c2).ownBlock) (p3 : NewBlk wr (.slice A2 k2 c2) (.slice A7 n7 c7)) :
    Below wL.heap.size wL w7 ∧ Cs w7 g [.slice A1 k1 c1, .slice A2 k2 c2] ∧ SI (w7.setCell ⟨g, 1, none⟩ (.slice A7 n7 c7)) wL.heap.size g A1 k1 c1 z1 A7 n7 c7 z7 ∧ Below wL.heap.size wL (w7.setCell ⟨g, 1, none⟩ (.slice A7 n7 c7)) := by
  obtain ⟨q1, q2⟩ := s4.app1 p1 p2 p3
  have bg := bb.grown p2 bb.size (fun x hx => (s4.o2.block x hx).1)
  exact ⟨bg, q1, q2, bg.setCell (p := ⟨g, 1, none⟩) hg _⟩
theorem si_lits (w : World) : SI (((w.alloc (.cells #[] 2)).alloc (.cells #[] 2)).alloc (.cells #[.slice (some ⟨w.heap.size, 0, none⟩) 0 0, .slice (some ⟨w.heap.size + 1, 0, none⟩) 0 0] 39)) w.heap.size (w.heap.size + 2) (some ⟨w.heap.size, 0, none⟩) 0 0 [] (some ⟨w.heap.size + 1, 0, none⟩) 0 0 [] := by
  have o1 := ((ownI_lit w).below (bel_alloc _ (.cells #[] 2))).below (bel_alloc _ (.cells #[.slice (some ⟨w.heap.size, 0, none⟩) 0 0, .slice (some ⟨w.heap.size + 1, 0, none⟩) 0 0] 39))
  have o2 := ((ownI_lit (w.alloc (.cells #[] 2))).below (bel_alloc _ (.cells #[.slice (some ⟨w.heap.size, 0, none⟩) 0 0, .slice (some ⟨w.heap.size + 1, 0, none⟩) 0 0] 39))).mono (b2 := w.heap.size) (by simp)
  have cs := Cs.new ((w.alloc (.cells #[] 2)).alloc (.cells #[] 2)) [.slice (some ⟨w.heap.size, 0, none⟩) 0 0, .slice (some ⟨w.heap.size + 1, 0, none⟩) 0 0] 39
  rw [show (w.alloc (.cells #[] 2)).heap.size = w.heap.size + 1 by simp] at o2
  rw [show ((w.alloc (.cells #[] 2)).alloc (.cells #[] 2)).heap.size = w.heap.size + 2 by simp] at cs
  refine ⟨cs, o1, o2, ?_, ?_, .inr ?_⟩ <;>
  · simp [Value.ownBlock]
set_option maxHeartbeats 8000000 in
theorem stratS_in (n : Nat) (es : List (Nat × Nat)) (ok : FrOk n es) (a : Nat) (ha : a < n) (hv : (frB n (es.map erow) && inR a 0 ((n : Int) - 1)) = true) (hb : (grdM n es).testBit a = true) (A : Option Addr) (m c : Nat) (w : World) (h : Rws w A m c (es.map erow)) :
    Calls Try.prog 30 #[.agg #[.int .i64 n, .slice A m c], .int .i64 a] w (GivesT (rkL n es a) (rpL n es a) true w) := by
  have b0 := bel_alloc w (.cells #[.int .i64 n, .slice A m c] 26)
  have C0 := Cs.new w [.int .i64 n, .slice A m c] 26
  have b1 := bel_alloc (w.alloc (.cells #[.int .i64 n, .slice A m c] 26)) (.cells #[.slice none 0 0, .slice none 0 0] 39)
  have CT := Lib.hid (Cs.new (w.alloc (.cells #[.int .i64 n, .slice A m c] 26)) [.slice none 0 0, .slice none 0 0] 39)
  rw [show (w.alloc (.cells #[.int .i64 n, .slice A m c] 26)).heap.size = w.heap.size + 1 by simp] at CT
  have n10 := ok.n10
  have OK := Lib.hid ok
  have H := Lib.hid h
  have B0 := Lib.hid (bel_trans b0 b1)
  have HC := Lib.hid (C0.below b1)
  have SZ := Lib.hid (show ((w.alloc (.cells #[.int .i64 n, .slice A m c] 26)).alloc (.cells #[.slice none 0 0, .slice none 0 0] 39)).heap.size = w.heap.size + 2 by simp)
  have V := Lib.hid (l08Has_any n a (es.map erow) _ A m c _ HC.out (h.below B0.out))
  rw [hv] at V
  have GB := Lib.hid hb
  have a0 : (0 : Int) ≤ (a : Int) := by omega
  have a1 : (a : Int) < (n : Int) := by omega
  clear h C0 b0 b1 hv hb ok
  go_enter Try.func30, Try.ntmps30
  go_wp2_with fail
  refine V.out.mono ?_
  rintro e w1 ⟨rfl, u1⟩
  have BT := Lib.hid (bel_trans B0.out u1)
  replace CT := Lib.hid (CT.out.below u1)
  replace HC := Lib.hid (HC.out.below u1)
  clear u1 V
  go_wp2_with fail
  refine (l08Of_ok n es OK.out _ A m c _ HC.out (H.out.below BT.out)).mono ?_
  rintro e w2 ⟨g, rfl, hg, u2⟩
  replace BT := Lib.hid (bel_trans BT.out u2)
  replace CT := Lib.hid (CT.out.below u2)
  have G2 := Lib.hid hg
  clear hg u2
  go_wp2_with fail
  refine (specRounds_ok n es OK.out g _ G2.out).mono ?_
  rintro e wL ⟨A3, c3, F, rfl, o3, hF, u3⟩
  have PF : 0 < F a := by
    have := acc_bit F ha
    rw [grdM_eq OK.out hF, GB.out] at this
    simpa using this.symm
  replace BT := Lib.hid (bel_trans BT.out u3)
  replace CT := Lib.hid (CT.out.below u3)
  have G3 := Lib.hid (G2.out.below u3)
  obtain ⟨g3, rfl, _, _⟩ := o3.form (by omega)
  have ca := o3.cell (lst_at F ha)
  have E1 := Lib.hid (show lst n (rkF F a) = rkL n es a from lst_congr fun b hb => rkF_congr (rndF_eq OK.out hF) ha hb)
  have E2 := Lib.hid (rpL_eq OK.out hF ha)
  have RM := Lib.hid (fun k => rk_max PF k)
  have FB := Lib.hid hF.bd
  have O3 := Lib.hid o3
  have hd1 := decide_eq_false (show ¬ F a ≤ 0 by omega)
  have S3 := Lib.hid (si_lits wL)
  have bx := bel_trans (bel_trans (bel_alloc wL (.cells #[] 2)) (bel_alloc _ (.cells #[] 2))) (bel_alloc _ (.cells #[.slice (some ⟨wL.heap.size, 0, none⟩) 0 0, .slice (some ⟨wL.heap.size + 1, 0, none⟩) 0 0] 39))
  have BX := Lib.hid bx
  obtain ⟨y, hy⟩ : ∃ y, F a = y := ⟨_, rfl⟩
  rw [hy] at ca RM hd1 PF
  have HY := Lib.hid hy
  clear o3 hF u3 bx hy
  go_wp2_with fail
  clear ca
  go_loopw [9] (fun t wr => ∃ (k : Nat) (A1 : Option Addr) (c1 : Nat), k ≤ n ∧ t = .int .i64 k ∧ SI wr wL.heap.size (wL.heap.size + 2) A1 k c1 (lst k (rkF F a)) (some ⟨wL.heap.size + 1, 0, none⟩) 0 0 [] ∧ Below wL.heap.size wL wr) (fun t _ => n - (intOf t).toNat)
  case atStart => exact ⟨0, _, 0, by omega, rfl, S3.out, BX.out⟩
  case round =>
    obtain ⟨k, A1, c1, hk, rfl, s4, bl⟩ := hrel
    have S4 := Lib.hid s4
    have BL := Lib.hid bl
    clear s4 bl S3 BX
    have gy := (by obtain ⟨_, _, _, _, C, _, _⟩ := (G3.out.below BL.out); exact C.cell 0 rfl : wr.cell? ⟨g, 0, none⟩ = some (.int .i64 n))
    by_cases hlt : k < n
    · have hd := decide_eq_true (show (k : Int) < (n : Int) by omega)
      have k0 : (0 : Int) ≤ (k : Int) := by omega
      have k1 : (k : Int) < (n : Int) := by omega
      have ck := (O3.out.below BL.out).cell (lst_at F hlt)
      have ca := (O3.out.below BL.out).cell (lst_at F ha)
      rw [HY.out] at ca
      have c0 := S4.out.cs.cell 0 rfl
      have hs4 := BL.out.size
      have bd := FB.out k hlt
      have LS := Lib.hid (show lst (k + 1) (rkF F a) = lst k (rkF F a) ++ [rkF F a k] from lst_succ k _)
      have RK := RM.out k
      obtain ⟨r, hr⟩ : ∃ r, rkF F a k = r := ⟨_, rfl⟩
      rw [hr] at LS RK
      obtain ⟨z, hz⟩ : ∃ z, F k = z := ⟨_, rfl⟩
      rw [hz] at ck RK bd
      obtain ⟨mx, hmx⟩ : ∃ q, (if z < 0 then 0 else z) = q := ⟨_, rfl⟩
      have HM := Lib.hid hmx
      rw [hmx] at RK
      have mb : -1024 ≤ mx ∧ mx ≤ 1024 := by rw [← hmx]; split <;> omega
      have rb1 : -9223372036854775808 ≤ r := by rw [RK]; split <;> omega
      have rb2 : r ≤ 9223372036854775807 := by rw [RK]; split <;> omega
      clear hr hz hmx
      by_cases h1 : y < mx
      · have hd2 := decide_eq_true h1
        obtain rfl : r = 0 := by rw [RK, if_pos h1]
        clear RK
        go_wp2_with fail
        refine (l00Max0_any z _).mono ?_
        rintro e w5 ⟨rfl, rfl⟩
        rw [HM.out]
        have STEP := Lib.hid (fun A7 c7 w7 p1 p2 p3 => sp_step0 (w := w) (A7 := A7) (n7 := k + 1) (c7 := c7) (w7 := w7) (z7 := lst k (rkF F a) ++ [0]) S4.out BL.out (by omega : wL.heap.size ≤ wL.heap.size + 2) p1 p2 p3)
        go_wp2_with (at_builtin; refine app_int_at wr rfl _ _ rfl wL.heap.size A1 k c1 _ rfl S4.out.o1 0 rb1 rb2 rfl (by omega) hs4 ?_; intro A7 c7 w7 p1 p2 p3; obtain ⟨CQ, SN⟩ := STEP.out A7 c7 w7 p1 p2 p3; have S7 := Lib.hid SN; have c70 := CQ.cell 0 rfl; have f70 := CQ.free 0 rfl; clear p1 p2 p3 CQ SN)
        go_roundw
        case rel => exact ⟨k + 1, A7, c7, by omega, by go_num, by rw [LS.out]; exact S7.out.1, S7.out.2⟩
        case measure => simp [intOf]; omega
      · have hd2 := decide_eq_false h1
        obtain rfl : r = mx := by rw [RK, if_neg h1]
        clear RK
        go_wp2_with fail
        refine (l00Max0_any z _).mono ?_
        rintro e w5 ⟨rfl, rfl⟩
        rw [HM.out]
        have STEP := Lib.hid (fun A7 c7 w7 p1 p2 p3 => sp_step0 (w := w) (A7 := A7) (n7 := k + 1) (c7 := c7) (w7 := w7) (z7 := lst k (rkF F a) ++ [r]) S4.out BL.out (by omega : wL.heap.size ≤ wL.heap.size + 2) p1 p2 p3)
        go_wp2_with (at_builtin; refine app_int_at wr rfl _ _ rfl wL.heap.size A1 k c1 _ rfl S4.out.o1 r rb1 rb2 rfl (by omega) hs4 ?_; intro A7 c7 w7 p1 p2 p3; obtain ⟨CQ, SN⟩ := STEP.out A7 c7 w7 p1 p2 p3; have S7 := Lib.hid SN; have c70 := CQ.cell 0 rfl; have f70 := CQ.free 0 rfl; clear p1 p2 p3 CQ SN)
        go_roundw
        case rel => exact ⟨k + 1, A7, c7, by omega, by go_num, by rw [LS.out]; exact S7.out.1, S7.out.2⟩
        case measure => simp [intOf]; omega
    · obtain rfl : k = n := by omega
      have hd := decide_eq_false (show ¬ (k : Int) < (k : Int) by omega)
      have S5 := Lib.hid (show SI wr wL.heap.size (wL.heap.size + 2) A1 k c1 (lst k (rkF F a)) (some ⟨wL.heap.size + 1, 0, none⟩) 0 0 (lst 0 (fun b => rp (attM es b) (rkF F a) k)) from S4.out)
      have B5 := Lib.hid BL.out
      clear S4 BL FB RM
      go_wp2_with fail
      clear gy
      go_loopw [11] (fun t wr => ∃ (j : Nat) (A2 : Option Addr) (c2 : Nat), j ≤ k ∧ t = .int .i64 j ∧ SI wr wL.heap.size (wL.heap.size + 2) A1 k c1 (lst k (rkF F a)) A2 j c2 (lst j (fun b => rp (attM es b) (rkF F a) k)) ∧ Below wL.heap.size wL wr) (fun t _ => k - (intOf t).toNat)
      case atStart => exact ⟨0, _, 0, by omega, rfl, S5.out, B5.out⟩
      case round =>
        obtain ⟨j, A2, c2, hj, rfl, s6, b6⟩ := hrel
        have S6 := Lib.hid s6
        have B6 := Lib.hid b6
        clear s6 b6 S5 B5
        have gy := (by obtain ⟨_, _, _, _, C, _, _⟩ := (G3.out.below B6.out); exact C.cell 0 rfl : wr.cell? ⟨g, 0, none⟩ = some (.int .i64 k))
        by_cases hlt : j < k
        · have hd := decide_eq_true (show (j : Int) < (k : Int) by omega)
          have RS := Lib.hid (show lst (j + 1) (fun b => rp (attM es b) (rkF F a) k) = lst j (fun b => rp (attM es b) (rkF F a) k) ++ [rp (attM es j) (rkF F a) k] from lst_succ j _)
          have RG := rp_range (attM es j) (rkF F a) k
          have RP := Lib.hid (fun W hG hI => l08Reply_ok k es OK.out (rkF F a) (rkF_nn F a) j hlt g A1 c1 W hG hI)
          obtain ⟨o, ho⟩ : ∃ o, rp (attM es j) (rkF F a) k = o := ⟨_, rfl⟩
          rw [ho] at RG RS RP
          have z0 : -9223372036854775808 ≤ o := by rcases RG with rfl | ⟨p, hp, rfl⟩ <;> omega
          have z1 : o ≤ 9223372036854775807 := by rcases RG with rfl | ⟨p, hp, rfl⟩ <;> omega
          have c0 := S6.out.cs.cell 0 rfl
          have c1' := S6.out.cs.cell 1 rfl
          clear ho RG
          go_wp2_with fail
          clear gy
          refine wp_region_noPanic ?_
          refine wp_region_R (inFirst (fun W => W.cell? ⟨wL.heap.size + 2, 0, none⟩ = some (.slice A1 k c1) ∧ W.cell? ⟨wL.heap.size + 2, 1, none⟩ = some (.slice A2 j c2)) 10) (by kernel_rfl) ?_
          have SS := Lib.hid (fun (W : World) (hW : Below wr.heap.size wr W) => (show W.cell? ⟨wL.heap.size + 2, 0, none⟩ = some (.slice A1 k c1) ∧ W.cell? ⟨wL.heap.size + 2, 1, none⟩ = some (.slice A2 j c2) from ⟨(S6.out.cs.below hW).cell 0 rfl, (S6.out.cs.below hW).cell 1 rfl⟩))
          have hS0 := SS.out wr.drew ⟨rfl, rfl, rfl, Nat.le_refl _, fun _ _ => rfl⟩
          refine anyR_takeD (i := 0) [1, 8] (.pointer (some ⟨wL.heap.size + 2, 1, none⟩)) rfl (by kernel_rfl) (by kernel_rfl) (by kernel_rfl) (by kernel_rfl) (by kernel_rfl) (fun _ _ _ h => h) (by assumption) ⟨by rfl, ?_⟩ ?_
          · intro W hW
            go_simp
          try simp only [Act.put, List.setIfInBounds_toArray, List.set_cons_zero, List.set_cons_succ, List.getElem_toArray, List.getElem_cons_zero, List.getElem_cons_succ]
          refine anyR_takeD (i := 1) [8] (.slice A2 j c2) rfl (by kernel_rfl) (by kernel_rfl) (by kernel_rfl) (by kernel_rfl) (by kernel_rfl) (fun _ _ _ h => h) (by assumption) ⟨by rfl, ?_⟩ ?_
          · intro W hW
            go_simp
          try simp only [Act.put, List.setIfInBounds_toArray, List.set_cons_zero, List.set_cons_succ, List.getElem_toArray, List.getElem_cons_zero, List.getElem_cons_succ]
          refine anyR_takeD (i := 2) [6, 7, 8] (.pointer (some ⟨g, 0, none⟩)) rfl (by kernel_rfl) (by kernel_rfl) (by kernel_rfl) (by kernel_rfl) (by kernel_rfl) (fun _ _ _ h => h) (by assumption) ⟨by rfl, ?_⟩ ?_
          · intro W hW
            go_simp
          try simp only [Act.put, List.setIfInBounds_toArray, List.set_cons_zero, List.set_cons_succ, List.getElem_toArray, List.getElem_cons_zero, List.getElem_cons_succ]
          refine anyR_takeD (i := 3) [4, 6, 7, 8] (.pointer (some ⟨wL.heap.size + 2, 0, none⟩)) rfl (by kernel_rfl) (by kernel_rfl) (by kernel_rfl) (by kernel_rfl) (by kernel_rfl) (fun _ _ _ h => h) (by assumption) ⟨by rfl, ?_⟩ ?_
          · intro W hW
            go_simp
          try simp only [Act.put, List.setIfInBounds_toArray, List.set_cons_zero, List.set_cons_succ, List.getElem_toArray, List.getElem_cons_zero, List.getElem_cons_succ]
          refine anyR_takeD (i := 4) [6, 7, 8] (.slice A1 k c1) rfl (by kernel_rfl) (by kernel_rfl) (by kernel_rfl) (by kernel_rfl) (by kernel_rfl) (fun _ _ _ h => h) (by assumption) ⟨by rfl, ?_⟩ ?_
          · intro W hW
            go_simp
          try simp only [Act.put, List.setIfInBounds_toArray, List.set_cons_zero, List.set_cons_succ, List.getElem_toArray, List.getElem_cons_zero, List.getElem_cons_succ]
          refine anyR_takeD (i := 5) [6, 7, 8] (.int .i64 j) rfl (by kernel_rfl) (by kernel_rfl) (by kernel_rfl) (by kernel_rfl) (by kernel_rfl) (fun _ _ _ h => h) (by assumption) ⟨by rfl, ?_⟩ ?_
          · intro W hW
            go_simp
          try simp only [Act.put, List.setIfInBounds_toArray, List.set_cons_zero, List.set_cons_succ, List.getElem_toArray, List.getElem_cons_zero, List.getElem_cons_succ]
          refine anyR_one (i := 6) (by kernel_rfl) rfl ?_
          intro K hK
          go_simp
          go_at_call 75
          refine (RP.out wr.drew (G3.out.below (show Below wL.heap.size wL wr.drew from ⟨B6.out.os, B6.out.tape, B6.out.output, B6.out.size, B6.out.block⟩)) (S6.out.o1.ints.below ⟨rfl, rfl, rfl, Nat.le_refl _, fun _ _ => rfl⟩)).mono ?_
          rintro e w5 ⟨rfl, u5'⟩
          have u5 : Below wr.heap.size wr w5 := ⟨u5'.os, u5'.tape, u5'.output, u5'.size, u5'.block⟩
          have t5 := SS.out w5 u5
          refine hK.out _ _ (fun _ => t5) ?_
          clear hK K
          try simp only [Act.put, List.setIfInBounds_toArray, List.set_cons_zero, List.set_cons_succ, List.getElem_toArray, List.getElem_cons_zero, List.getElem_cons_succ]
          refine anyR_one (i := 7) (by kernel_rfl) rfl ?_
          intro K hK
          go_simp
          have u6 := bel_trans u5 (bel_alloc w5 (.cells #[.int .i64 o] 2))
          have t6 := SS.out _ u6
          refine hK.out _ _ (fun _ => t6) ?_
          clear hK K
          try simp only [Act.put, List.setIfInBounds_toArray, List.set_cons_zero, List.set_cons_succ, List.getElem_toArray, List.getElem_cons_zero, List.getElem_cons_succ]
          refine anyR_one (i := 8) (by kernel_rfl) rfl ?_
          intro K hK
          have S7 := Lib.hid (S6.out.below u6)
          have B7 := Lib.hid (bel_trans B6.out u6)
          have HCN := Lib.hid (show (w5.alloc (.cells #[.int .i64 o] 2)).cell? ⟨w5.heap.size, 0, none⟩ = some (.int .i64 o) from (Cs.new w5 [.int .i64 o] 2).cell 0 rfl)
          refine step_app_int _ (by rfl) _ _ (by rfl) wL.heap.size A2 j c2 _ (by rfl) S7.out.o2 o z0 z1 w5.heap.size (by rfl) HCN.out (by omega) B7.out.size ?_
          intro A7 c7 w7 p1 p2 p3
          obtain ⟨BG, CQ, SN⟩ := sp_step1 (w := w) S7.out B7.out (by omega : wL.heap.size ≤ wL.heap.size + 2) p1 p2 p3
          have SN' := Lib.hid SN
          have c70 := CQ.cell 0 rfl
          have c71 := CQ.cell 1 rfl
          have f71 := CQ.free 1 rfl
          clear p1 p2 p3 BG CQ SN
          refine hK.out _ _ (fun _ => ⟨c70, c71⟩) ?_
          clear hK K
          try simp only [Act.put, List.setIfInBounds_toArray, List.set_cons_zero, List.set_cons_succ, List.getElem_toArray, List.getElem_cons_zero, List.getElem_cons_succ]
          refine anyR_one (i := 9) (by kernel_rfl) rfl ?_
          intro K hK
          go_simp
          refine hK.out _ _ (fun _ => ⟨c70, c71⟩) ?_
          clear hK K
          try simp only [Act.put, List.setIfInBounds_toArray, List.set_cons_zero, List.set_cons_succ, List.getElem_toArray, List.getElem_cons_zero, List.getElem_cons_succ]
          refine anyR_one (i := 10) (by kernel_rfl) rfl ?_
          intro K hK
          go_simp
          refine hK.out _ _ (fun h => absurd h (by decide)) ?_
          clear hK K
          try simp only [Act.put, List.setIfInBounds_toArray, List.set_cons_zero, List.set_cons_succ, List.getElem_toArray, List.getElem_cons_zero, List.getElem_cons_succ]
          refine anyR_done (by kernel_rfl) ?_ _
          refine NoPanic.normal ?_
          clear hS0 t5 t6 c70 c71 f71 c0 c1'
          go_wp2_with fail
          go_roundw
          case rel => exact ⟨j + 1, A7, c7, by omega, by go_num, by rw [RS.out]; exact SN'.out.1, SN'.out.2⟩
          case measure => simp [intOf]; omega
        · obtain rfl : j = k := by omega
          have hd := decide_eq_false (show ¬ (j : Int) < (j : Int) by omega)
          have BE0 := bel_trans BT.out B6.out
          have CTE := Lib.hid (CT.out.below B6.out)
          have SZL := BT.out.size
          have lt1 := CT.out.1
          have s0 := S6.out.cs.cell 0 rfl
          have s1 := S6.out.cs.cell 1 rfl
          have f0 := CTE.out.free 0 rfl
          have f1 := CTE.out.free 1 rfl
          have p0 := CTE.out.cell 0 rfl
          have p1 := CTE.out.cell 1 rfl
          have K2 := Lib.hid ((CTE.out.set 0 (.slice A1 j c1) (by simp)).set 1 (.slice A2 j c2) (by simp))
          have BE := Lib.hid ((BE0.setCell (p := ⟨w.heap.size + 1, 0, none⟩) (by simp) (.slice A1 j c1)).setCell (p := ⟨w.heap.size + 1, 1, none⟩) (by simp) (.slice A2 j c2))
          have X1 : (Value.slice A1 j c1).ownBlock ≠ some (w.heap.size + 1) := fun e => by have := (S6.out.o1.block _ e).1; omega
          have X2 : (Value.slice A2 j c2).ownBlock ≠ some (w.heap.size + 1) := fun e => by have := (S6.out.o2.block _ e).1; omega
          have OE1 := Lib.hid (((S6.out.o1.aside X1 0 (.slice A1 j c1)).aside X1 1 (.slice A2 j c2)).mono (b2 := w.heap.size) SZL)
          have OE2 := Lib.hid (((S6.out.o2.aside X2 0 (.slice A1 j c1)).aside X2 1 (.slice A2 j c2)).mono (b2 := w.heap.size) SZL)
          have AP := Lib.hid S6.out.ap
          clear BE0 X1 X2
          go_wp2_with fail
          have r0 := K2.out.cell 0 (v := .slice A1 j c1) (by simp)
          have r1 := K2.out.cell 1 (v := .slice A2 j c2) (by simp)
          exact bodyPost_ret (v := .tuple #[.agg #[.slice A1 j c1, .slice A2 j c2], .bool true]) (by simp [results, Try.results30, go_sem, r0, r1]) rfl (givesT_lst E1.out E2.out OE1.out OE2.out AP.out BE.out)
theorem rkL_len (n : Nat) (es : List (Nat × Nat)) (a : Nat) : (rkL n es a).length = n := lst_len _ _
theorem rpL_len (n : Nat) (es : List (Nat × Nat)) (a : Nat) : (rpL n es a).length = n := lst_len _ _
theorem strat_both (cnt : Int) (hc1 : -9223372036854775808 ≤ cnt) (hc2 : cnt ≤ 9223372036854775807) (x : Int) (rows : List (List Int)) : ∃ (z1 z2 : List Int) (b : Bool), z1.length ≤ 1048576 ∧ z2.length ≤ 1048576 ∧
    (∀ (A : Option Addr) (m c : Nat) (w : World), Rws w A m c rows → Calls Try.prog 31 #[.agg #[.int .i64 cnt, .slice A m c], .int .i64 x] w (GivesT z1 z2 b w)) ∧
    (∀ (A : Option Addr) (m c : Nat) (w : World), Rws w A m c rows → Calls Try.prog 30 #[.agg #[.int .i64 cnt, .slice A m c], .int .i64 x] w (GivesT z1 z2 b w)) := by
  cases hv : frB cnt rows && inR x 0 (cnt - 1)
  · exact ⟨[], [], false, by simp, by simp, fun A m c w h => stratI_no cnt hc1 hc2 x rows hv A m c w h, fun A m c w h => stratS_no cnt x rows hv A m c w h⟩
  · obtain ⟨n, es, a, rfl, rfl, ok, rfl, ha⟩ := isArg_ok hv
    have n10 := ok.n10
    cases hb : (grdM n es).testBit a
    · exact ⟨[], [], false, by simp, by simp, fun A m c w h => stratI_out n es ok a ha hv hb A m c w h, fun A m c w h => stratS_out n es ok a ha hv hb A m c w h⟩
    · exact ⟨_, _, true, by rw [rkL_len]; omega, by rw [rpL_len]; omega, fun A m c w h => stratI_in n es ok a ha hv hb A m c w h, fun A m c w h => stratS_in n es ok a ha hv hb A m c w h⟩
end Go.Proofs.Yteejfjgofpolkaa
