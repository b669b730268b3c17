/- PhragmenOrder, walked. -/
import Derived.Test.YtiodbjfchfmlcaaPhr
import Derived.Test.YtiodbjfchfmlcaaPhase
import Derived.Test.YtiodbjfchfmlcaaSkip
import Derived.Deep.Cut
import Derived.Deep.CutRange
namespace Go.Proofs.Ytiodbjfchfmlcaa
set_option linter.unusedVariables false
set_option linter.unusedSimpArgs false
set_option maxRecDepth 100000
open Go.RowKit Go.Deep
theorem gr_belP {a b c : World} {row : Option Nat} (h : a.grownBy b row) (k : Below b.heap.size b c) : a.grownBy c row :=
  grown_trans h ⟨k.os, k.tape, k.output, k.size, fun j hj _ => k.block j hj⟩
theorem gr_appP {a b c : World} {row row2 : Option Nat} (h : a.grownBy b row) (k : b.grownBy c row2) (hn : ∀ x, row2 = some x → a.heap.size ≤ x) : a.grownBy c row :=
  ⟨k.os.trans h.os, k.tape.trans h.tape, k.output.trans h.output, Nat.le_trans h.size k.size, fun j hj hne => (k.block j (Nat.lt_of_lt_of_le hj h.size) (fun e => by have := hn j e.symm; omega)).trans (h.block j hj hne)⟩
theorem ph_put {t g : Nat} {wo W : World} {u0 u1 : Value} (v0 v1 : Value) (h : BO t W g u0 u1) (hg : wo.grownBy W (some g)) : BO t ((W.setCell ⟨g, 0, none⟩ v0).setCell ⟨g, 1, none⟩ v1).drew g v0 v1 ∧ wo.grownBy ((W.setCell ⟨g, 0, none⟩ v0).setCell ⟨g, 1, none⟩ v1).drew (some g) := by
  obtain ⟨p1, g1⟩ := h.set0 v0
  obtain ⟨p2, g2⟩ := p1.set1 v1
  exact ⟨p2, gr_belP (grown_trans hg (grown_trans g1 g2)) ⟨rfl, rfl, rfl, Nat.le_refl _, fun _ _ => rfl⟩⟩
theorem own_l1 {base : Nat} (w : World) (hb : base ≤ w.heap.size) (o p : Obj) : OwnI (((w.alloc (.cells #[] 2)).alloc o).alloc p).drew base (some ⟨w.heap.size, 0, none⟩) 0 0 [] := by
  show OwnI (((w.alloc (.cells #[] 2)).alloc o).alloc p) base _ 0 0 []
  exact ((ownI_lit w).mono hb).below (bel_trans (bel_alloc _ o) (bel_alloc _ p))
theorem own_l2 {base : Nat} (w : World) (hb : base ≤ w.heap.size) (o p : Obj) : OwnI (((w.alloc o).alloc (.cells #[] 2)).alloc p).drew base (some ⟨w.heap.size + 1, 0, none⟩) 0 0 [] := by
  show OwnI (((w.alloc o).alloc (.cells #[] 2)).alloc p) base _ 0 0 []
  have := ((ownI_lit (w.alloc o)).mono (b2 := base) (by simp; omega)).below (bel_alloc _ p)
  simpa using this
theorem own_l3 {base : Nat} (w : World) (hb : base ≤ w.heap.size) (o p : Obj) : OwnI (((w.alloc o).alloc p).alloc (.cells #[] 2)).drew base (some ⟨w.heap.size + 1 + 1, 0, none⟩) 0 0 [] := by
  show OwnI (((w.alloc o).alloc p).alloc (.cells #[] 2)) base _ 0 0 []
  have := ((ownI_lit ((w.alloc o).alloc p)).mono (b2 := base) (by simp; omega))
  simpa using this
theorem frs_l1 {base : Nat} (w : World) (hb : base ≤ w.heap.size) (o p : Obj) : FrsO (((w.alloc (.cells #[] 32)).alloc o).alloc p).drew base (some ⟨w.heap.size, 0, none⟩) 0 0 1 [] := by
  show FrsO (((w.alloc (.cells #[] 32)).alloc o).alloc p) base _ 0 0 1 []
  exact FrsO.below (OwnR.mono (frsO_lit w 1) hb) (bel_trans (bel_alloc _ o) (bel_alloc _ p))
theorem frs_l2 {base : Nat} (w : World) (hb : base ≤ w.heap.size) (o p : Obj) : FrsO (((w.alloc o).alloc (.cells #[] 32)).alloc p).drew base (some ⟨w.heap.size + 1, 0, none⟩) 0 0 1 [] := by
  show FrsO (((w.alloc o).alloc (.cells #[] 32)).alloc p) base _ 0 0 1 []
  have : FrsO _ base _ _ _ _ _ := FrsO.below (OwnR.mono (b2 := base) (frsO_lit (w.alloc o) 1) (by simp; omega)) (bel_alloc _ p)
  simpa using this
theorem frs_l3 {base : Nat} (w : World) (hb : base ≤ w.heap.size) (o p : Obj) : FrsO (((w.alloc o).alloc p).alloc (.cells #[] 32)).drew base (some ⟨w.heap.size + 1 + 1, 0, none⟩) 0 0 1 [] := by
  show FrsO (((w.alloc o).alloc p).alloc (.cells #[] 32)) base _ 0 0 1 []
  have : FrsO _ base _ _ _ _ _ := (OwnR.mono (b2 := base) (frsO_lit ((w.alloc o).alloc p) 1) (by simp; omega))
  simpa using this
theorem ph_first {base gs cS n o t q : Nat} {ap : List (List Int)} {w W : World} (sp : FrsO w base (some ⟨gs, 0, none⟩) n cS 1 (slR ap n [])) (hg : gs < w.heap.size) (hW : Below w.heap.size w W)
    (ho : OwnI W base (some ⟨o, 0, none⟩) 0 0 []) (ht : FrsO W base (some ⟨t, 0, none⟩) 0 0 1 []) (hq : OwnI W base (some ⟨q, 0, none⟩) 0 0 []) (h1 : o ≠ q) (h2 : w.heap.size ≤ t) : PhW base gs cS n ap 1 [] [] (some ⟨o, 0, none⟩) 0 (some ⟨t, 0, none⟩) 0 (some ⟨q, 0, none⟩) 0 W :=
  ⟨sp.below hW, ho, ht, hq, .inr (by simp [Value.ownBlock]; exact h1), .inr (by simp [Value.ownBlock]; omega)⟩
/-- What PhragmenOrder gives. -/
def PhrR (lo : Nat) (e : El) (r : Ending) (w' : World) : Prop :=
  ∃ (D lf : Int) (R : List (Nat × Int)) (dn : List Nat) (O : Option Addr) (oc : Nat) (T : Option Addr) (tc : Nat), PhS e D R dn lf ∧ r = .returned (.tuple #[.slice O R.length oc, .slice T R.length tc, .bool true]) ∧ OwnI w' lo O R.length oc (zns (R.reverse.map Prod.fst)) ∧ FrsO w' lo T R.length tc D (R.reverse.map Prod.snd)
set_option maxHeartbeats 8000000 in
theorem phragmen_ok (CA : Option Addr) (m cc : Nat) (AA : Option Addr) (n ac : Nat) (e : El) (w : World) (h : ElW w CA m cc AA n ac e) (ok : EOk e) :
    Calls Try.prog 13 #[.agg #[.int .i64 e.mon, .slice CA m cc, .slice AA n ac]] w fun r w' => PhrR w.heap.size e r w' ∧ Below w.heap.size w w' := by
  have hm := h.cl
  have hn := h.al
  have h6 := ok.cs1
  have a6 := ok.ap1
  have b0 := bel_alloc w (.cells #[.int .i64 e.mon, .slice CA m cc, .slice AA n ac] 27)
  have C0 := (Cs.new w [.int .i64 e.mon, .slice CA m cc, .slice AA n ac] 27)
  have VE := Lib.hid (validEl_ok CA m cc AA n ac e _ (h.below b0) ok)
  have HB0 := Lib.hid b0
  have HC0 := Lib.hid C0
  have H0 := Lib.hid h
  have OK := Lib.hid ok
  have mon := ok.mon
  simp only [List.toArray] at VE HC0
  clear h ok b0 C0
  go_enter Try.func13, Try.ntmps13
  go_wp2_with fail
  refine VE.out.mono ?_
  rintro r w1 ⟨rfl, b1⟩
  have C1 := Lib.hid (HC0.out.below b1)
  have B1 := Lib.hid (bel_trans HB0.out b1)
  have H1 := Lib.hid (H0.out.below B1.out)
  have F1 := Lib.hid (frsO_lit w1 1)
  have BL := Lib.hid (bel_alloc w1 (.cells #[] 32))
  have y2 := (C1.out.below BL.out).cell 2 rfl
  have sz1 := B1.out.size
  clear b1 VE HB0 HC0 H0
  go_wp2_with fail
  go_loopw [5, 27] (fun s t wr => ∃ (k : Nat) (O : Option Addr) (oc : Nat), k ≤ n ∧ s = .slice O k oc ∧ t = .int .i64 k ∧ FrsO wr w1.heap.size O k oc 1 (List.replicate k 0) ∧ Below w1.heap.size w1 wr) (fun _ t _ => n - (intOf t).toNat)
  case atStart => exact ⟨0, _, 0, Nat.zero_le _, rfl, rfl, F1.out, BL.out⟩
  case round =>
    obtain ⟨k, O, cS, hk, rfl, rfl, ho, hb⟩ := hrel
    have HO := Lib.hid ho
    have HB := Lib.hid hb
    have bsz := hb.size
    clear ho hb F1 BL y2
    by_cases hlt : k < n
    · have d0 := decide_eq_true (show (k : Int) < (n : Int) by omega)
      go_wp2_with fail
      refine (whole_raw 0 _).mono ?_
      rintro r w3 ⟨rfl, b3⟩
      have HO3 := Lib.hid (HO.out.below b3)
      have HB3 := Lib.hid (bel_trans HB.out b3)
      have sz3 := HB3.out.size
      have r01 : redN 0 1 = 0 ∧ redD 0 1 = 1 := by decide
      clear b3
      go_wp2_with (at_builtin; refine app_fr1 w3 rfl _ _ rfl w1.heap.size O k cS 1 _ rfl HO3.out 0 0 1 r01.1 r01.2 rfl (by omega) sz3 ?_; intro A' c' w4 p1 p2 p3)
      go_roundw
      case rel => exact ⟨k + 1, A', c', by omega, rfl, by go_num, by rw [List.replicate_succ']; exact p1, HB3.out.grown p2 HB3.out.size (fun x hx => (HO3.out.block x hx).1)⟩
      case measure => simp [intOf]; omega
    · obtain rfl : n = k := by omega
      have d0 := decide_eq_false (show ¬ (n : Int) < (n : Int) by omega)
      obtain ⟨gs, rfl, gs0, gs1⟩ := OwnR.form HO.out (by omega)
      have SP := Lib.hid (show FrsO wr w1.heap.size (some ⟨gs, 0, none⟩) n cS 1 (slR e.ap n []) from by
        have : slR e.ap n [] = List.replicate n 0 := by
          unfold slR
          rw [List.eq_replicate_iff]
          exact ⟨by simp, fun b hb => by obtain ⟨v, _, rfl⟩ := List.mem_map.1 hb; rfl⟩
        rw [this]
        exact HO.out)
      have C2 := Lib.hid (C1.out.below HB.out)
      have y0 := C2.out.cell 0 rfl
      have bf : n = n := rfl
      clear HO
      go_upto_region 8 with fail
      go_cut [6, 7, 8, 9] from 34 to 39 (fun s6 s7 s8 s9 wx => ∃ (O : Option Addr) (oc : Nat) (T : Option Addr) (tc : Nat) (N : Option Addr) (nc : Nat), s6 = .slice O 0 oc ∧ s7 = .slice T 0 tc ∧ s8 = .int .i64 e.mon ∧ s9 = .slice N 0 nc ∧ PhW w1.heap.size gs cS n e.ap 1 [] [] O oc T tc N nc wx ∧ Below w1.heap.size w1 wx)
      case first =>
        have y0a := (C2.out.below (bel_alloc wr (.cells #[] 2))).cell 0 rfl
        have y0b := (C2.out.below (bel_alloc wr (.cells #[] 32))).cell 0 rfl
        have y0c := (C2.out.below (bel_trans (bel_alloc wr (.cells #[] 2)) (bel_alloc _ (.cells #[] 2)))).cell 0 rfl
        have y0d := (C2.out.below (bel_trans (bel_alloc wr (.cells #[] 2)) (bel_alloc _ (.cells #[] 32)))).cell 0 rfl
        have y0e := (C2.out.below (bel_trans (bel_alloc wr (.cells #[] 32)) (bel_alloc _ (.cells #[] 2)))).cell 0 rfl
        have y0f := (C2.out.below (bel_trans (bel_trans (bel_alloc wr (.cells #[] 32)) (bel_alloc _ (.cells #[] 2))) (bel_alloc _ (.cells #[] 2)))).cell 0 rfl
        have y0g := (C2.out.below (bel_trans (bel_trans (bel_alloc wr (.cells #[] 2)) (bel_alloc _ (.cells #[] 2))) (bel_alloc _ (.cells #[] 32)))).cell 0 rfl
        have y0h := (C2.out.below (bel_trans (bel_trans (bel_alloc wr (.cells #[] 2)) (bel_alloc _ (.cells #[] 32))) (bel_alloc _ (.cells #[] 2)))).cell 0 rfl
        go_region
        all_goals (go_wp2_with fail; go_meet; case rel => exact ⟨_, _, _, _, _, _, rfl, rfl, rfl, rfl, ph_first SP.out gs1 (below_drewN (bel_trans (bel_trans (bel_alloc _ _) (bel_alloc _ _)) (bel_alloc _ _)) 1) (by first | exact own_l1 _ bsz _ _ | exact own_l2 _ bsz _ _ | exact own_l3 _ bsz _ _) (by first | exact frs_l1 _ bsz _ _ | exact frs_l2 _ bsz _ _ | exact frs_l3 _ bsz _ _) (by first | exact own_l1 _ bsz _ _ | exact own_l2 _ bsz _ _ | exact own_l3 _ bsz _ _) (by omega) (by omega), below_drewN (bel_trans HB.out (bel_trans (bel_trans (bel_alloc _ _) (bel_alloc _ _)) (bel_alloc _ _))) 1⟩)
      case rest =>
      obtain ⟨O, oc, T, tc, N, nc, rfl, rfl, rfl, rfl, hw, hb⟩ := hcut
      have W0 := Lib.hid hw
      have X0 := Lib.hid hb
      have S0 := Lib.hid (PhS.start OK.out)
      clear hw hb SP C2 y0 bf d0 HB
      go_wp2_with fail
      go_loopw [6, 7, 8, 9] (fun s6 s7 s8 s9 wr => ∃ (D lf : Int) (R : List (Nat × Int)) (dn : List Nat) (O : Option Addr) (oc : Nat) (T : Option Addr) (tc : Nat) (N : Option Addr) (nc : Nat), s6 = .slice O R.length oc ∧ s7 = .slice T R.length tc ∧ s8 = .int .i64 lf ∧ s9 = .slice N dn.length nc ∧ PhS e D R dn lf ∧ PhW w1.heap.size gs cS n e.ap D R dn O oc T tc N nc wr ∧ Below w1.heap.size w1 wr) (fun _ _ _ s9 _ => 7 - (match s9 with | .slice _ n _ => n | _ => 0))
      case atStart => exact ⟨1, e.mon, [], [], O, oc, T, tc, N, nc, rfl, rfl, rfl, rfl, S0.out, W0.out, X0.out⟩
      case round =>
        obtain ⟨D, lf, R, dn, O, oc, T, tc, N, nc, rfl, rfl, rfl, rfl, hs, hw, hb⟩ := hrel
        have HS := Lib.hid hs
        have HW := Lib.hid hw
        have HB := Lib.hid hb
        clear hs hw hb S0 W0 X0
        have bsz := HB.out.size
        obtain ⟨wo, rfl⟩ : ∃ z, z = wr := ⟨_, rfl⟩
        have bal := bel_alloc wo (.cells #[.int .i64 0, .int .i64 0] 32)
        have LV := Lib.hid (BO.new 32 wo (.int .i64 0) (.int .i64 0))
        have GR0 := Lib.hid (show wo.grownBy (wo.alloc (.cells #[.int .i64 0, .int .i64 0] 32)) (some wo.heap.size) from World.grownBy_alloc _ _ _)
        have y1 := (C1.out.below (bel_trans HB.out bal)).cell 1 rfl
        clear bal
        go_wp2_with fail
        go_loopw [10, 43] (fun s10 t wr => ∃ (k : Nat) (bst : Option Nat) (N0 N1 : Int), k ≤ m ∧ t = .int .i64 k ∧ s10 = .int .i64 (bstI bst) ∧ BestP e.cs e.ap D dn R k bst ∧ BO 32 wr wo.heap.size (.int .i64 N0) (.int .i64 N1) ∧ (∀ b, bst = some b → N0 = redN (atN e.cs e.ap D R b) (D * sz e.ap b) ∧ N1 = redD (atN e.cs e.ap D R b) (D * sz e.ap b)) ∧ wo.grownBy wr (some wo.heap.size)) (fun _ t _ => m - (intOf t).toNat)
        case atStart => exact ⟨0, none, 0, 0, Nat.zero_le _, rfl, rfl, (fun x hx => absurd hx (by omega)), LV.out, (fun b hb => by cases hb), GR0.out⟩
        case round =>
          obtain ⟨k, bst, N0, N1, hk, rfl, rfl, hbp, hbo, hbv, hg⟩ := hrel
          have BP := Lib.hid hbp
          have BV := Lib.hid hbv
          have HL := Lib.hid hbo
          have HG := Lib.hid hg
          have HR := Lib.hid (HB.out.grown hg HB.out.size (fun x hx => by injection hx with hx; omega))
          have WR := Lib.hid (HW.out.far hg (Nat.le_refl _))
          have C3 := Lib.hid (C1.out.below HR.out)
          have H3 := Lib.hid (H1.out.below HR.out)
          clear hbp hbo hbv hg LV GR0 y1
          by_cases hlt : k < m
          · have d1 := decide_eq_true (show (k : Int) < (m : Int) by omega)
            have y0 := C3.out.cell 0 rfl
            have y1 := C3.out.cell 1 rfl
            have y2 := C3.out.cell 2 rfl
            have SU := Lib.hid (supporters_ok e.mon CA m cc AA n ac e.ap k wr H3.out.a (by omega))
            go_wp2_with fail
            refine SU.out.mono ?_
            rintro r w3 ⟨SA, Ls, sc, rfl, hs, b3⟩
            have W3 := Lib.hid (WR.out.below b3)
            have L3 := Lib.hid (HL.out.below b3)
            have B3 := Lib.hid b3
            have HS3 := Lib.hid hs
            have HLS := Lib.hid (show (supN e.ap (k : Int) n).length = Ls by have := hs.len; rwa [zns_len] at this)
            have CO := Lib.hid (has_any N dn.length nc (zns dn) k w3 W3.out.dw.ints)
            have Ls6 : Ls ≤ 6 := by have := supN_len e.ap (k : Int) n; have := HLS.out; omega
            have SZ := Lib.hid (show sz e.ap k = (Ls : Int) by unfold sz; rw [hn, HLS.out])
            have sz3 := b3.size
            clear b3 hs SU y0 y1 y2
            cases hc : dn.contains k
            · have NC := Lib.hid (show k ∉ dn from fun hh => by rw [List.contains_iff_mem.2 hh] at hc; cases hc)
              rw [zns_has, hc] at CO
              clear hc
              by_cases hL0 : Ls = 0
              · have e0 := decide_eq_true (show (Ls : Int) = 0 by omega)
                have e1 : ((Ls : Int) == 0) = true := by simp [hL0]
                have SK := Lib.hid (BP.out.skip (.inr (by rw [SZ.out, hL0]; rfl)))
                have GK := Lib.hid (gr_belP HG.out B3.out)
                go_wp2_with fail
                refine CO.out.mono ?_
                rintro r w4 ⟨rfl, rfl⟩
                go_wp2_with fail
                go_roundw
                case rel => exact ⟨k + 1, bst, N0, N1, by omega, by go_num, rfl, SK.out, L3.out, BV.out, GK.out⟩
                case measure => simp [intOf]; omega
              · have e0 := decide_eq_false (show ¬ (Ls : Int) = 0 by omega)
                have e1 : ((Ls : Int) == 0) = false := by simp [hL0]
                obtain ⟨bc, oC, c, rfl, hbc, hcc, c0, c1, hcz⟩ := H1.out.c.at (show k < m by omega)
                have B13 := Lib.hid (bel_trans HR.out B3.out)
                have cc3 := (B13.out.cell (p := ⟨bc, oC + k, none⟩) hbc).trans hcc
                have GD := Lib.hid (show e.cs.getD k 0 = c by rw [List.getD_eq_getElem?_getD, hcz.out]; rfl)
                have y1 := (C1.out.below B13.out).cell 1 rfl
                have k0 : (0 : Int) ≤ (k : Int) := by omega
                have k1 : (k : Int) < (m : Int) := by omega
                clear hcc hcz
                go_wp2_with fail
                refine CO.out.mono ?_
                rintro r w4 ⟨rfl, rfl⟩
                go_wp2_with fail
                refine (whole_raw c _).mono ?_
                rintro r w4 ⟨rfl, b4⟩
                have B14 := Lib.hid (bel_trans B13.out b4)
                have W4 := Lib.hid (W3.out.below b4)
                have L4 := Lib.hid (L3.out.below b4)
                have S4 := Lib.hid (HS3.out.below b4)
                have G4 := Lib.hid (gr_belP HG.out (bel_trans B3.out b4))
                have G45 := Lib.hid (show w4.grownBy (w4.alloc (.cells #[.int .i64 c, .int .i64 1] 32)) (some w4.heap.size) from World.grownBy_alloc _ _ _)
                have V5 := Lib.hid (BO.new 32 w4 (.int .i64 c) (.int .i64 1))
                have FV5 := Lib.hid (show c = redN (e.cs.getD k 0 * D + sumV (snc e.ap R) ((supN e.ap (k : Int) n).take 0)) D ∧ (1 : Int) = redD (e.cs.getD k 0 * D + sumV (snc e.ap R) ((supN e.ap (k : Int) n).take 0)) D from by
                  rw [GD.out, List.take_zero, sumV_nil, Int.add_zero, (red_whole c HS.out.d1).1, (red_whole c HS.out.d1).2]
                  exact ⟨rfl, rfl⟩)
                have gw : wr.heap.size ≤ w4.heap.size := Nat.le_trans sz3 b4.size
                have gw0 : wo.heap.size < w4.heap.size := Nat.lt_of_lt_of_le (HL.out.lt) gw
                have gw1 : w3.heap.size ≤ w4.heap.size := b4.size
                clear b4 y1 cc3 W3 L3 HS3 WR HL HG C3 H3
                go_wp2_with fail
                obtain ⟨g4, hg4⟩ : ∃ z, w4.heap.size = z := ⟨_, rfl⟩
                obtain ⟨w5, hw5⟩ : ∃ z, w4.alloc (.cells #[.int .i64 c, .int .i64 1] 32) = z := ⟨_, rfl⟩
                have HG4 := Lib.hid hg4
                rw [hw5, hg4] at G45 V5
                rw [hg4] at gw gw0 gw1
                rw [hw5, hg4]
                clear hw5 hg4
                go_loopw [65] (fun t wr => ∃ (i : Nat) (N M : Int), i ≤ Ls ∧ t = .int .i64 i ∧ BO 32 wr g4 (.int .i64 N) (.int .i64 M) ∧ Hid (N = redN (e.cs.getD k 0 * D + sumV (snc e.ap R) ((supN e.ap (k : Int) n).take i)) D ∧ M = redD (e.cs.getD k 0 * D + sumV (snc e.ap R) ((supN e.ap (k : Int) n).take i)) D) ∧ w4.grownBy wr (some g4)) (fun t _ => Ls - (intOf t).toNat)
                case atStart => exact ⟨0, c, 1, Nat.zero_le _, rfl, V5.out, FV5.out, G45.out⟩
                case round =>
                  obtain ⟨i, N, M, hi, rfl, hv, NM, hg⟩ := hrel
                  have V6 := Lib.hid hv
                  have G6 := Lib.hid hg
                  have W6 := Lib.hid (W4.out.far hg (Nat.le_of_eq HG4.out))
                  have S6 := Lib.hid (S4.out.kept hg (ne_far (fun g e => (S4.out.block g e).2) (Nat.le_of_eq HG4.out)))
                  clear hv hg V5 FV5 G45
                  by_cases hil : i < Ls
                  · have d2 := decide_eq_true (show (i : Int) < (Ls : Int) by omega)
                    have i0 : (0 : Int) ≤ (i : Int) := by omega
                    obtain ⟨v, hvx⟩ : ∃ v, (supN e.ap (k : Int) n)[i]? = some v := ⟨_, List.getElem?_eq_getElem (by rw [HLS.out]; exact hil)⟩
                    have hvn := (supN_mem (List.mem_of_getElem? hvx)).1
                    have LT6 : ((supN e.ap (k : Int) n).take i).length ≤ 6 := by rw [List.length_take, HLS.out]; have := supN_len e.ap (k : Int) n; have := HLS.out; omega
                    have PT := HS.out.part OK.out (show k < e.cs.length by omega) _ LT6
                    have SN := HS.out.snc OK.out v
                    have d1' := HS.out.d1
                    have PL0 := fun W => plus_ok (HS.out.sm OK.out PT.1 PT.2) (HS.out.sm OK.out SN.1 (by omega)) W
                    obtain ⟨sp0, sp1, gsl, gsb⟩ := PhW.at W6.out hvn
                    obtain ⟨N', hN'⟩ : ∃ z, redN (e.cs.getD k 0 * D + sumV (snc e.ap R) ((supN e.ap (k : Int) n).take i) + snc e.ap R v) D = z := ⟨_, rfl⟩
                    obtain ⟨M', hM'⟩ : ∃ z, redD (e.cs.getD k 0 * D + sumV (snc e.ap R) ((supN e.ap (k : Int) n).take i) + snc e.ap R v) D = z := ⟨_, rfl⟩
                    have NM' := Lib.hid (show N' = redN (e.cs.getD k 0 * D + sumV (snc e.ap R) ((supN e.ap (k : Int) n).take (i + 1))) D ∧ M' = redD (e.cs.getD k 0 * D + sumV (snc e.ap R) ((supN e.ap (k : Int) n).take (i + 1))) D from by
                      rw [List.take_add_one, hvx, Option.toList_some, sumV_snoc, ← Int.add_assoc, hN', hM']
                      exact ⟨rfl, rfl⟩)
                    unfold FV at PL0
                    rw [hN', hM', ← NM.out.1, ← NM.out.2] at PL0
                    obtain ⟨P0, hP0⟩ : ∃ z, redN (snc e.ap R v) D = z := ⟨_, rfl⟩
                    obtain ⟨P1, hP1⟩ : ∃ z, redD (snc e.ap R v) D = z := ⟨_, rfl⟩
                    rw [hP0] at sp0 PL0
                    rw [hP1] at sp1 PL0
                    have PL := Lib.hid PL0
                    obtain ⟨bS, oS, rfl, hbS, cS6⟩ := ints_get' S6.out.ints (zns_at hvx)
                    have v1 := V6.out.cells.1
                    have v2 := V6.out.cells.2
                    have SS := Lib.hid (fun W (hW : Below wr.heap.size wr W) => (show Below wr.heap.size wr W ∧ W.cell? ⟨g4, 0, none⟩ = some (.int .i64 N) ∧ W.cell? ⟨g4, 1, none⟩ = some (.int .i64 M) ∧ W.cell? ⟨gs, v * 2, none⟩ = some (.int .i64 P0) ∧ W.cell? ⟨gs, v * 2 + 1, none⟩ = some (.int .i64 P1) from
                      ⟨hW, (hW.cell (p := ⟨g4, 0, none⟩) V6.out.lt).trans v1, (hW.cell (p := ⟨g4, 1, none⟩) V6.out.lt).trans v2, (hW.cell (p := ⟨gs, v * 2, none⟩) gsl).trans sp0, (hW.cell (p := ⟨gs, v * 2 + 1, none⟩) gsl).trans sp1⟩))
                    have k1 : (i : Int) < (Ls : Int) := by omega
                    have vn0 : (v : Int) < (n : Int) := by omega
                    have vn1 : (0 : Int) ≤ (v : Int) := by omega
                    have gz : wr.heap.size = wr.heap.size := rfl
                    clear hvx LT6 PT SN d1' PL0 hN' hM' hP0 hP1 sp0 sp1 v1 v2 NM S6
                    go_wp2_with fail
                    refine wp_region_noPanic ?_
                    refine wp_region_R (inFirst (fun W => Below wr.heap.size wr W ∧ W.cell? ⟨g4, 0, none⟩ = some (.int .i64 N) ∧ W.cell? ⟨g4, 1, none⟩ = some (.int .i64 M) ∧ W.cell? ⟨gs, v * 2, none⟩ = some (.int .i64 P0) ∧ W.cell? ⟨gs, v * 2 + 1, none⟩ = some (.int .i64 P1)) 6) (by kernel_rfl) ?_
                    have hS := SS.out wr.drew ⟨rfl, rfl, rfl, Nat.le_refl _, fun _ _ => rfl⟩
                    refine anyR_take (i := 0) (.agg #[.int .i64 N, .int .i64 M]) rfl (by kernel_rfl) (by kernel_rfl) (by kernel_rfl) (by kernel_rfl) (fun _ _ _ h => h) (by assumption) ⟨by rfl, ?_⟩ ?_
                    · intro W hW
                      go_simp
                    try simp only [Act.put, List.setIfInBounds_toArray, List.set_cons_zero, List.set_cons_succ, List.getElem_toArray, List.getElem_cons_zero, List.getElem_cons_succ]
                    refine anyR_take (i := 1) (.slice (some ⟨gs, 0, none⟩) n cS) rfl (by kernel_rfl) (by kernel_rfl) (by kernel_rfl) (by kernel_rfl) (fun _ _ _ h => h) (by assumption) ⟨by rfl, ?_⟩ ?_
                    · intro W hW
                      go_simp
                    try simp only [Act.put, List.setIfInBounds_toArray, List.set_cons_zero, List.set_cons_succ, List.getElem_toArray, List.getElem_cons_zero, List.getElem_cons_succ]
                    refine anyR_take (i := 2) (.int .i64 (v : Nat)) rfl (by kernel_rfl) (by kernel_rfl) (by kernel_rfl) (by kernel_rfl) (fun _ _ _ h => h) (by assumption) ⟨by rfl, ?_⟩ ?_
                    · intro W hW
                      go_simp
                    try simp only [Act.put, List.setIfInBounds_toArray, List.set_cons_zero, List.set_cons_succ, List.getElem_toArray, List.getElem_cons_zero, List.getElem_cons_succ]
                    refine anyR_take (i := 3) (.pointer (some ⟨gs, v * 2, none⟩)) rfl (by kernel_rfl) (by kernel_rfl) (by kernel_rfl) (by kernel_rfl) (fun _ _ _ h => h) (by assumption) ⟨by rfl, ?_⟩ ?_
                    · intro W hW
                      go_simp
                    try simp only [Act.put, List.setIfInBounds_toArray, List.set_cons_zero, List.set_cons_succ, List.getElem_toArray, List.getElem_cons_zero, List.getElem_cons_succ]
                    refine anyR_take (i := 4) (.agg #[.int .i64 P0, .int .i64 P1]) rfl (by kernel_rfl) (by kernel_rfl) (by kernel_rfl) (by kernel_rfl) (fun _ _ _ h => h) (by assumption) ⟨by rfl, ?_⟩ ?_
                    · intro W hW
                      go_simp
                    try simp only [Act.put, List.setIfInBounds_toArray, List.set_cons_zero, List.set_cons_succ, List.getElem_toArray, List.getElem_cons_zero, List.getElem_cons_succ]
                    refine anyR_one (i := 5) (by kernel_rfl) rfl ?_
                    intro K hK
                    go_simp
                    go_at_call 35
                    refine (PL.out _).mono ?_
                    rintro _ w6 ⟨rfl, b6⟩
                    have hT := SS.out w6 (bel_trans hS.1 b6)
                    refine hK.out _ _ (fun _ => hT) ?_
                    clear hS b6
                    have hS := hT
                    clear hT
                    clear hK K
                    try simp only [Act.put, List.setIfInBounds_toArray, List.set_cons_zero, List.set_cons_succ, List.getElem_toArray, List.getElem_cons_zero, List.getElem_cons_succ]
                    have V7 := Lib.hid (V6.out.below hS.1)
                    have G7 := Lib.hid (gr_belP G6.out hS.1)
                    have q0 := V7.out.cells.1
                    have q1 := V7.out.cells.2
                    have f0 := V7.out.free 0
                    have f1 := V7.out.free 1
                    clear hS
                    refine anyR_one (i := 6) (by kernel_rfl) rfl ?_
                    intro K hK
                    go_simp
                    refine hK.out _ _ (fun h => absurd h (by decide)) ?_
                    clear hK K
                    try simp only [Act.put, List.setIfInBounds_toArray, List.set_cons_zero, List.set_cons_succ, List.getElem_toArray, List.getElem_cons_zero, List.getElem_cons_succ]
                    refine anyR_done (by kernel_rfl) ?_ _
                    refine NoPanic.normal ?_
                    obtain ⟨p1, g1⟩ := V7.out.set0 (.int .i64 N')
                    obtain ⟨p2, g2⟩ := p1.set1 (.int .i64 M')
                    have P2 := Lib.hid p2
                    have GG := Lib.hid (grown_trans G7.out (grown_trans g1 g2))
                    clear p1 g1 p2 g2 q0 q1 f0 f1 SS PL
                    go_wp2_with fail
                    go_roundw
                    case rel => exact ⟨i + 1, N', M', by omega, by go_num, P2.out, NM'.out, GG.out⟩
                    case measure => simp [intOf]; omega
                  · obtain rfl : Ls = i := by omega
                    have d2 := decide_eq_false (show ¬ (Ls : Int) < (Ls : Int) by omega)
                    have L6 := Lib.hid (L4.out.far G6.out (by omega))
                    have GO6 := Lib.hid (gr_appP G4.out G6.out (fun x hx => by injection hx with hx; omega))
                    have kc : k < e.cs.length := by omega
                    have AB := HS.out.atN OK.out kc
                    have AN : e.cs.getD k 0 * D + sumV (snc e.ap R) ((supN e.ap (k : Int) n).take Ls) = atN e.cs e.ap D R k := by
                      unfold atN
                      rw [List.take_of_length_le (Nat.le_of_eq HLS.out), hn]
                    have NM2 := NM.out
                    rw [AN] at NM2
                    have OV0 := fun W => over_ok (m := (Ls : Int)) (HS.out.sm OK.out AB.1 AB.2) (by omega) (by omega) W
                    obtain ⟨A0, hA0⟩ : ∃ z, redN (atN e.cs e.ap D R k) (D * (Ls : Int)) = z := ⟨_, rfl⟩
                    obtain ⟨A1, hA1⟩ : ∃ z, redD (atN e.cs e.ap D R k) (D * (Ls : Int)) = z := ⟨_, rfl⟩
                    unfold FV at OV0
                    rw [hA0, hA1, ← NM2.1, ← NM2.2] at OV0
                    have OVR := Lib.hid OV0
                    have HA := Lib.hid (And.intro hA0 hA1)
                    have v1 := V6.out.cells.1
                    have v2 := V6.out.cells.2
                    have SS := Lib.hid (fun W (hW : Below wr.heap.size wr W) => (show Below wr.heap.size wr W ∧ W.cell? ⟨g4, 0, none⟩ = some (.int .i64 N) ∧ W.cell? ⟨g4, 1, none⟩ = some (.int .i64 M) from
                      ⟨hW, (hW.cell (p := ⟨g4, 0, none⟩) V6.out.lt).trans v1, (hW.cell (p := ⟨g4, 1, none⟩) V6.out.lt).trans v2⟩))
                    have g4l := V6.out.lt
                    clear AB AN NM NM2 OV0 hA0 hA1 v1 v2 S6 hi hil
                    go_upto_region 21 with fail
                    go_cut [17] from 44 to 91 (fun s17 wx => ∃ g7 : Nat, s17 = .pointer (some ⟨g7, 0, none⟩) ∧ wo.heap.size < g7 ∧ BO 32 wx g7 (.int .i64 A0) (.int .i64 A1) ∧ BO 32 wx wo.heap.size (.int .i64 N0) (.int .i64 N1) ∧ wo.grownBy wx (some wo.heap.size))
                    case first =>
                      refine wp_region_noPanic ?_
                      refine wp_region_R (inFirst (fun W => Below wr.heap.size wr W ∧ W.cell? ⟨g4, 0, none⟩ = some (.int .i64 N) ∧ W.cell? ⟨g4, 1, none⟩ = some (.int .i64 M)) 6) (by kernel_rfl) ?_
                      have hS := SS.out wr.drew ⟨rfl, rfl, rfl, Nat.le_refl _, fun _ _ => rfl⟩
                      obtain ⟨v0, hv0⟩ : ∃ x, wr.drew = x := ⟨_, rfl⟩
                      rw [hv0] at hS
                      rw [hv0]
                      clear hv0
                      refine anyR_take (i := 0) (.agg #[.int .i64 N, .int .i64 M]) rfl (by kernel_rfl) (by kernel_rfl) (by kernel_rfl) (by kernel_rfl) (fun _ _ _ h => h) (by assumption) ⟨by rfl, ?_⟩ ?_
                      · intro W hW
                        go_simp
                      try simp only [Act.put, List.setIfInBounds_toArray, List.set_cons_zero, List.set_cons_succ, List.getElem_toArray, List.getElem_cons_zero, List.getElem_cons_succ]
                      refine anyR_take (i := 1) (.slice SA Ls sc) rfl (by kernel_rfl) (by kernel_rfl) (by kernel_rfl) (by kernel_rfl) (fun _ _ _ h => h) (by assumption) ⟨by rfl, ?_⟩ ?_
                      · intro W hW
                        go_simp
                      try simp only [Act.put, List.setIfInBounds_toArray, List.set_cons_zero, List.set_cons_succ, List.getElem_toArray, List.getElem_cons_zero, List.getElem_cons_succ]
                      refine anyR_take (i := 2) (.int .i64 (Ls : Nat)) rfl (by kernel_rfl) (by kernel_rfl) (by kernel_rfl) (by kernel_rfl) (fun _ _ _ h => h) (by assumption) ⟨by rfl, ?_⟩ ?_
                      · intro W hW
                        go_simp
                      try simp only [Act.put, List.setIfInBounds_toArray, List.set_cons_zero, List.set_cons_succ, List.getElem_toArray, List.getElem_cons_zero, List.getElem_cons_succ]
                      refine anyR_two (i := 3) (j := 5) (by kernel_rfl) rfl rfl ?_ ?_
                      · intro K hK
                        go_simp
                        go_at_call 33
                        refine (whole_raw (Ls : Int) _).mono ?_
                        rintro _ v3 ⟨rfl, c3⟩
                        have hT := SS.out v3 (bel_trans hS.1 c3)
                        refine hK.out _ _ (fun _ => hT) ?_
                        clear hS
                        have hS := hT
                        clear hT
                        clear hK K
                        try simp only [Act.put, List.setIfInBounds_toArray, List.set_cons_zero, List.set_cons_succ, List.getElem_toArray, List.getElem_cons_zero, List.getElem_cons_succ]
                        refine anyR_two (i := 4) (j := 5) (by kernel_rfl) rfl rfl ?_ ?_
                        · intro K hK
                          go_simp
                          go_at_call 36
                          refine (OVR.out _).mono ?_
                          rintro _ v4 ⟨rfl, c4⟩
                          have hT := SS.out v4 (bel_trans hS.1 c4)
                          refine hK.out _ _ (fun _ => hT) ?_
                          clear hS
                          have hS := hT
                          clear hT
                          clear hK K
                          try simp only [Act.put, List.setIfInBounds_toArray, List.set_cons_zero, List.set_cons_succ, List.getElem_toArray, List.getElem_cons_zero, List.getElem_cons_succ]
                          refine anyR_one (i := 5) (by kernel_rfl) rfl ?_
                          intro K hK
                          go_simp
                          have c5 := bel_alloc v4 (.cells #[.int .i64 0, .int .i64 0] 32)
                          have N5 := Lib.hid (BO.new 32 v4 (.int .i64 0) (.int .i64 0))
                          have gz5 := hS.1.size
                          obtain ⟨g7, hg7⟩ : ∃ z, (v4).heap.size = z := ⟨_, rfl⟩
                          obtain ⟨v5, hv5⟩ : ∃ z, (v4).alloc (.cells #[.int .i64 0, .int .i64 0] 32) = z := ⟨_, rfl⟩
                          rw [hv5] at c5 N5
                          rw [hv5]
                          rw [hg7] at N5 gz5
                          try rw [hg7]
                          have hT := SS.out v5 (bel_trans hS.1 c5)
                          refine hK.out _ _ (fun _ => hT) ?_
                          clear hS
                          have hS := hT
                          clear hT
                          clear hK K
                          try simp only [Act.put, List.setIfInBounds_toArray, List.set_cons_zero, List.set_cons_succ, List.getElem_toArray, List.getElem_cons_zero, List.getElem_cons_succ]
                          have N6 := Lib.hid (N5.out)
                          have B6 := Lib.hid hS.1
                          have q0 := N6.out.cells.1
                          have q1 := N6.out.cells.2
                          have f0 := N6.out.free 0
                          have f1 := N6.out.free 1
                          have gl7 := N6.out.lt
                          clear hS
                          refine anyR_one (i := 6) (by kernel_rfl) rfl ?_
                          intro K hK
                          go_simp
                          refine hK.out _ _ (fun h => absurd h (by decide)) ?_
                          clear hK K
                          try simp only [Act.put, List.setIfInBounds_toArray, List.set_cons_zero, List.set_cons_succ, List.getElem_toArray, List.getElem_cons_zero, List.getElem_cons_succ]
                          refine anyR_done (by kernel_rfl) ?_ _
                          refine NoPanic.normal ?_
                          obtain ⟨p1, g1⟩ := N6.out.set0 (.int .i64 A0)
                          obtain ⟨p2, g2⟩ := p1.set1 (.int .i64 A1)
                          have P2 := Lib.hid p2
                          have G8 := Lib.hid (grown_trans g1 g2)
                          have L8 := Lib.hid ((L6.out.below B6.out).far G8.out (by omega))
                          have GG := Lib.hid (gr_appP (gr_belP GO6.out B6.out) G8.out (fun x hx => by injection hx with hx; omega))
                          clear p1 g1 p2 g2 q0 q1 f0 f1
                          go_wp2_with fail
                          go_meet
                          case rel => exact ⟨g7, rfl, by omega, P2.out, L8.out, GG.out⟩
                        · intro K hK
                          go_simp
                          have c5 := bel_alloc v3 (.cells #[.int .i64 0, .int .i64 0] 32)
                          have N5 := Lib.hid (BO.new 32 v3 (.int .i64 0) (.int .i64 0))
                          have gz5 := hS.1.size
                          obtain ⟨g7, hg7⟩ : ∃ z, (v3).heap.size = z := ⟨_, rfl⟩
                          obtain ⟨v5, hv5⟩ : ∃ z, (v3).alloc (.cells #[.int .i64 0, .int .i64 0] 32) = z := ⟨_, rfl⟩
                          rw [hv5] at c5 N5
                          rw [hv5]
                          rw [hg7] at N5 gz5
                          try rw [hg7]
                          have hT := SS.out v5 (bel_trans hS.1 c5)
                          refine hK.out _ _ (fun _ => hT) ?_
                          clear hS
                          have hS := hT
                          clear hT
                          clear hK K
                          try simp only [Act.put, List.setIfInBounds_toArray, List.set_cons_zero, List.set_cons_succ, List.getElem_toArray, List.getElem_cons_zero, List.getElem_cons_succ]
                          refine anyR_one (i := 4) (by kernel_rfl) rfl ?_
                          intro K hK
                          go_simp
                          go_at_call 36
                          refine (OVR.out _).mono ?_
                          rintro _ v4 ⟨rfl, c4⟩
                          have hT := SS.out v4 (bel_trans hS.1 c4)
                          refine hK.out _ _ (fun _ => hT) ?_
                          clear hS
                          have hS := hT
                          clear hT
                          clear hK K
                          try simp only [Act.put, List.setIfInBounds_toArray, List.set_cons_zero, List.set_cons_succ, List.getElem_toArray, List.getElem_cons_zero, List.getElem_cons_succ]
                          have N6 := Lib.hid (N5.out.below c4)
                          have B6 := Lib.hid hS.1
                          have q0 := N6.out.cells.1
                          have q1 := N6.out.cells.2
                          have f0 := N6.out.free 0
                          have f1 := N6.out.free 1
                          have gl7 := N6.out.lt
                          clear hS
                          refine anyR_one (i := 6) (by kernel_rfl) rfl ?_
                          intro K hK
                          go_simp
                          refine hK.out _ _ (fun h => absurd h (by decide)) ?_
                          clear hK K
                          try simp only [Act.put, List.setIfInBounds_toArray, List.set_cons_zero, List.set_cons_succ, List.getElem_toArray, List.getElem_cons_zero, List.getElem_cons_succ]
                          refine anyR_done (by kernel_rfl) ?_ _
                          refine NoPanic.normal ?_
                          obtain ⟨p1, g1⟩ := N6.out.set0 (.int .i64 A0)
                          obtain ⟨p2, g2⟩ := p1.set1 (.int .i64 A1)
                          have P2 := Lib.hid p2
                          have G8 := Lib.hid (grown_trans g1 g2)
                          have L8 := Lib.hid ((L6.out.below B6.out).far G8.out (by omega))
                          have GG := Lib.hid (gr_appP (gr_belP GO6.out B6.out) G8.out (fun x hx => by injection hx with hx; omega))
                          clear p1 g1 p2 g2 q0 q1 f0 f1
                          go_wp2_with fail
                          go_meet
                          case rel => exact ⟨g7, rfl, by omega, P2.out, L8.out, GG.out⟩
                      · intro K hK
                        go_simp
                        have c5 := bel_alloc v0 (.cells #[.int .i64 0, .int .i64 0] 32)
                        have N5 := Lib.hid (BO.new 32 v0 (.int .i64 0) (.int .i64 0))
                        have gz5 := hS.1.size
                        obtain ⟨g7, hg7⟩ : ∃ z, (v0).heap.size = z := ⟨_, rfl⟩
                        obtain ⟨v5, hv5⟩ : ∃ z, (v0).alloc (.cells #[.int .i64 0, .int .i64 0] 32) = z := ⟨_, rfl⟩
                        rw [hv5] at c5 N5
                        rw [hv5]
                        rw [hg7] at N5 gz5
                        try rw [hg7]
                        have hT := SS.out v5 (bel_trans hS.1 c5)
                        refine hK.out _ _ (fun _ => hT) ?_
                        clear hS
                        have hS := hT
                        clear hT
                        clear hK K
                        try simp only [Act.put, List.setIfInBounds_toArray, List.set_cons_zero, List.set_cons_succ, List.getElem_toArray, List.getElem_cons_zero, List.getElem_cons_succ]
                        refine anyR_one (i := 3) (by kernel_rfl) rfl ?_
                        intro K hK
                        go_simp
                        go_at_call 33
                        refine (whole_raw (Ls : Int) _).mono ?_
                        rintro _ v3 ⟨rfl, c3⟩
                        have hT := SS.out v3 (bel_trans hS.1 c3)
                        refine hK.out _ _ (fun _ => hT) ?_
                        clear hS
                        have hS := hT
                        clear hT
                        clear hK K
                        try simp only [Act.put, List.setIfInBounds_toArray, List.set_cons_zero, List.set_cons_succ, List.getElem_toArray, List.getElem_cons_zero, List.getElem_cons_succ]
                        refine anyR_one (i := 4) (by kernel_rfl) rfl ?_
                        intro K hK
                        go_simp
                        go_at_call 36
                        refine (OVR.out _).mono ?_
                        rintro _ v4 ⟨rfl, c4⟩
                        have hT := SS.out v4 (bel_trans hS.1 c4)
                        refine hK.out _ _ (fun _ => hT) ?_
                        clear hS
                        have hS := hT
                        clear hT
                        clear hK K
                        try simp only [Act.put, List.setIfInBounds_toArray, List.set_cons_zero, List.set_cons_succ, List.getElem_toArray, List.getElem_cons_zero, List.getElem_cons_succ]
                        have N6 := Lib.hid (N5.out.below (bel_trans c3 c4))
                        have B6 := Lib.hid hS.1
                        have q0 := N6.out.cells.1
                        have q1 := N6.out.cells.2
                        have f0 := N6.out.free 0
                        have f1 := N6.out.free 1
                        have gl7 := N6.out.lt
                        clear hS
                        refine anyR_one (i := 6) (by kernel_rfl) rfl ?_
                        intro K hK
                        go_simp
                        refine hK.out _ _ (fun h => absurd h (by decide)) ?_
                        clear hK K
                        try simp only [Act.put, List.setIfInBounds_toArray, List.set_cons_zero, List.set_cons_succ, List.getElem_toArray, List.getElem_cons_zero, List.getElem_cons_succ]
                        refine anyR_done (by kernel_rfl) ?_ _
                        refine NoPanic.normal ?_
                        obtain ⟨p1, g1⟩ := N6.out.set0 (.int .i64 A0)
                        obtain ⟨p2, g2⟩ := p1.set1 (.int .i64 A1)
                        have P2 := Lib.hid p2
                        have G8 := Lib.hid (grown_trans g1 g2)
                        have L8 := Lib.hid ((L6.out.below B6.out).far G8.out (by omega))
                        have GG := Lib.hid (gr_appP (gr_belP GO6.out B6.out) G8.out (fun x hx => by injection hx with hx; omega))
                        clear p1 g1 p2 g2 q0 q1 f0 f1
                        go_wp2_with fail
                        go_meet
                        case rel => exact ⟨g7, rfl, by omega, P2.out, L8.out, GG.out⟩
                    case rest =>
                    obtain ⟨g7, rfl, hg7, hv7, hl7, hgg⟩ := hcut
                    have V8 := Lib.hid hv7
                    have L8 := Lib.hid hl7
                    have G8 := Lib.hid hgg
                    have z0 := hv7.cells.1
                    have z1 := hv7.cells.2
                    have x0 := hl7.cells.1
                    have x1 := hl7.cells.2
                    have f0 := hl7.free 0
                    have f1 := hl7.free 1
                    have BVN := Lib.hid (show ∀ b, some k = some b → A0 = redN (atN e.cs e.ap D R b) (D * sz e.ap b) ∧ A1 = redD (atN e.cs e.ap D R b) (D * sz e.ap b) from fun b hb => by
                      injection hb with hb
                      subst hb
                      rw [SZ.out]
                      exact ⟨HA.out.1.symm, HA.out.2.symm⟩)
                    have ST := Lib.hid (ph_put (.int .i64 A0) (.int .i64 A1) hl7 hgg)
                    have dL := hl7.lt
                    clear hv7 hl7 hgg V6 G6 W6 L6 GO6 SS OVR hg7
                    cases bst with
                    | none =>
                      rw [show bstI none = -1 from rfl]
                      have NX := Lib.hid (BP.out.first NC.out (by rw [SZ.out]; omega))
                      go_wp2_with fail
                      go_region
                      go_wp2_with fail
                      go_roundw
                      case rel => exact ⟨k + 1, some k, A0, A1, by omega, by go_num, rfl, NX.out, ST.out.1, BVN.out, ST.out.2⟩
                      case measure => simp [intOf]; omega
                    | some b =>
                      rw [show bstI (some b) = (b : Int) from rfl]
                      have db := decide_eq_false (show ¬ (b : Int) < 0 by omega)
                      have LB := BP.out
                      have bm : b < e.cs.length := by have := LB.1; omega
                      have SB := sz6 OK.out b
                      have sb1 := LB.2.2.1
                      have SK := SZ.out
                      have AK := HS.out.atN OK.out (show k < e.cs.length by omega)
                      have AB := HS.out.atN OK.out bm
                      have CM0 := fun W => compare2_ok (HS.out.smO OK.out AK.1 AK.2 (s := (Ls : Int)) (by omega) (by omega)) (HS.out.smO OK.out AB.1 AB.2 (s := sz e.ap b) (by omega) SB.2) W
                      have bv := BV.out b rfl
                      unfold FV at CM0
                      rw [HA.out.1, HA.out.2, ← bv.1, ← bv.2] at CM0
                      have D0 := HS.out.d1
                      have E1 : atN e.cs e.ap D R k * (D * sz e.ap b) = atN e.cs e.ap D R k * sz e.ap b * D := by ac_rfl
                      have E2 : atN e.cs e.ap D R b * (D * (Ls : Int)) = atN e.cs e.ap D R b * (Ls : Int) * D := by ac_rfl
                      rw [E1, E2] at CM0
                      by_cases hq : atN e.cs e.ap D R k * sz e.ap b < atN e.cs e.ap D R b * sz e.ap k
                      · have NX := Lib.hid (BP.out.less NC.out (by rw [SK]; omega) hq)
                        rw [SK] at hq
                        rw [show cmpI (atN e.cs e.ap D R k * sz e.ap b * D) (atN e.cs e.ap D R b * (Ls : Int) * D) = -1 from if_pos (Int.mul_lt_mul_of_pos_right hq (by omega))] at CM0
                        have CM := Lib.hid CM0
                        clear CM0 hq E1 E2 D0 bv AB AK SK sb1 SB LB
                        go_wp2_with fail
                        refine (CM.out _).mono ?_
                        rintro _ w9 ⟨rfl, b9⟩
                        have V9 := V8.out.below b9
                        have L9 := L8.out.below b9
                        have ST9 := Lib.hid (ph_put (.int .i64 A0) (.int .i64 A1) L9 (gr_belP G8.out b9))
                        have z0 := V9.cells.1
                        have z1 := V9.cells.2
                        have x0 := L9.cells.1
                        have x1 := L9.cells.2
                        have f0 := L9.free 0
                        have f1 := L9.free 1
                        clear b9 V9 L9 ST
                        go_wp2_with fail
                        go_region
                        go_wp2_with fail
                        go_roundw
                        case rel => exact ⟨k + 1, some k, A0, A1, by omega, by go_num, rfl, NX.out, ST9.out.1, BVN.out, ST9.out.2⟩
                        case measure => simp [intOf]; omega
                      · have NX := Lib.hid (BP.out.more hq)
                        rw [SK] at hq
                        have hq2 : ¬ cmpI (atN e.cs e.ap D R k * sz e.ap b * D) (atN e.cs e.ap D R b * (Ls : Int) * D) < 0 := by
                          unfold cmpI
                          rw [if_neg (fun hh => hq (Int.lt_of_mul_lt_mul_right hh (by omega)))]
                          split <;> omega
                        obtain ⟨q, hqq⟩ : ∃ q, cmpI (atN e.cs e.ap D R k * sz e.ap b * D) (atN e.cs e.ap D R b * (Ls : Int) * D) = q := ⟨_, rfl⟩
                        rw [hqq] at CM0 hq2
                        have dq := decide_eq_false hq2
                        have CM := Lib.hid CM0
                        clear CM0 hq hqq E1 E2 D0 bv AB AK SK sb1 SB LB
                        go_wp2_with fail
                        refine (CM.out _).mono ?_
                        rintro _ w9 ⟨rfl, b9⟩
                        have L9 := Lib.hid (L8.out.below b9)
                        have G9 := Lib.hid (gr_belP G8.out b9)
                        clear b9
                        go_wp2_with fail
                        go_roundw
                        case rel => exact ⟨k + 1, some b, N0, N1, by omega, by go_num, rfl, NX.out, L9.out, BV.out, G9.out⟩
                        case measure => simp [intOf]; omega
            · have SK := Lib.hid (BP.out.skip (.inl (List.contains_iff_mem.1 hc)))
              have GK := Lib.hid (gr_belP HG.out B3.out)
              rw [zns_has, hc] at CO
              clear hc
              go_wp2_with fail
              refine CO.out.mono ?_
              rintro r w4 ⟨rfl, rfl⟩
              go_wp2_with fail
              go_roundw
              case rel => exact ⟨k + 1, bst, N0, N1, by omega, by go_num, rfl, SK.out, L3.out, BV.out, GK.out⟩
              case measure => simp [intOf]; omega
          · obtain rfl : m = k := by omega
            have d1 := decide_eq_false (show ¬ (m : Int) < (m : Int) by omega)
            cases bst with
            | none =>
              rw [show bstI none = -1 from rfl]
              have B9 := Lib.hid (bel_trans B1.out HR.out)
              have O9 := Lib.hid (WR.out.out.mono sz1)
              have T9 := Lib.hid (OwnR.mono WR.out.tm sz1)
              go_wp2_with fail
              exact bodyPost_ret (v := .tuple #[.slice O R.length oc, .slice T R.length tc, .bool true]) (by simp [results, Try.results13, go_sem]) rfl ⟨⟨D, lf, R, dn, O, oc, T, tc, HS.out, rfl, O9.out, T9.out⟩, B9.out⟩
            | some b =>
              rw [show bstI (some b) = (b : Int) from rfl]
              have db := decide_eq_false (show ¬ (b : Int) < 0 by omega)
              have LB := Lib.hid (show Least e.cs e.ap D dn R e.cs.length b by have := BP.out; rw [← hm] at this; exact this)
              have bm : b < m := BP.out.1
              have hdn := HS.out.dn6 OK.out
              have szR := HR.out.size
              have BV2 := Lib.hid (BV.out b rfl)
              have FR := Lib.hid (fun g (e : (Value.slice T R.length tc).ownBlock = some g) => (HW.out.tm.block g e).2)
              obtain ⟨bc, oC, c, rfl, hbc, hcc, c0, c1, hcz⟩ := H1.out.c.at bm
              have HCC := Lib.hid hcc
              have GD := Lib.hid (show e.cs.getD b 0 = c by rw [List.getD_eq_getElem?_getD, hcz.out]; rfl)
              have cB := OK.out.costx (show b < e.cs.length by omega)
              rw [GD.out] at cB
              have l60 : lf ≤ 60 := by
                have h1 := HS.out.hlf
                have h2 : 0 ≤ costR e.cs R := by
                  unfold costR
                  have : ∀ l : List (Nat × Int), 0 ≤ (l.map fun p => e.cs.getD p.1 0).sum := by
                    intro l
                    induction l with
                    | nil => simp
                    | cons p l ih =>
                      rw [List.map_cons, List.sum_cons]
                      have : 0 ≤ e.cs.getD p.1 0 := by
                        rw [List.getD_eq_getElem?_getD]
                        by_cases hp : p.1 < e.cs.length
                        · rw [List.getElem?_eq_getElem hp]
                          have := OK.out.cost _ (List.getElem_mem hp)
                          simp
                          omega
                        · rw [List.getElem?_eq_none (by omega)]
                          simp
                      omega
                  exact this R
                omega
              have lf0 := HS.out.l0
              clear hcc hcz C3 H3 BV BP
              by_cases hgt : lf < c
              · have dg := decide_eq_true hgt
                have SK := Lib.hid (HS.out.skip (show b < e.cs.length by omega) LB.out.2.1)
                go_wp2_with (at_builtin; refine app_int_at wr rfl _ _ rfl w1.heap.size N dn.length nc (zns dn) rfl WR.out.dw (b : Int) (by omega) (by omega) rfl (by omega) szR ?_; intro A7 c7 w7 p1 p2 p3; have W7 := Lib.hid (WR.out.addDone p1 p2 p3); have L7 := Lib.hid (HL.out.keep WR.out.dw.1 (n := 0) p2 (by decide)); have B7 := Lib.hid (HR.out.grown p2 szR (fun x hx => (WR.out.dw.block x hx).1)); have ND := Lib.hid (show (dn ++ [b]).length = dn.length + 1 by simp); have y1 := (C1.out.below B7.out).cell 1 rfl; have cc7 := (B7.out.cell (p := ⟨bc, oC + b, none⟩) hbc).trans HCC.out; clear p1 p2 p3)
                rw [← ND.out]
                go_roundw
                case rel => exact ⟨D, lf, R, dn ++ [b], O, oc, T, tc, A7, c7, rfl, rfl, rfl, rfl, SK.out, W7.out, B7.out⟩
                case measure => simp; omega
              · have dg := decide_eq_false hgt
                go_wp2_with (at_builtin; refine app_int_at wr rfl _ _ rfl w1.heap.size N dn.length nc (zns dn) rfl WR.out.dw (b : Int) (by omega) (by omega) rfl (by omega) szR ?_; intro A7 c7 w7 p1 p2 p3; have W7 := Lib.hid (WR.out.addDone p1 p2 p3); have L7 := Lib.hid (HL.out.keep WR.out.dw.1 (n := 0) p2 (by decide)); have B7 := Lib.hid (HR.out.grown p2 szR (fun x hx => (WR.out.dw.block x hx).1)); have ND := Lib.hid (show (dn ++ [b]).length = dn.length + 1 by simp); have y1 := (C1.out.below B7.out).cell 1 rfl; have cc7 := (B7.out.cell (p := ⟨bc, oC + b, none⟩) hbc).trans HCC.out; clear p1 p2 p3)
                have sb1 := LB.out.2.2.1
                have K1 : 1 ≤ sz e.ap b := by omega
                have D1 := HS.out.d1
                have rl := HS.out.rl
                have WS : IntKind.i64.wrap (lf - c) = lf - c := IntWalk.i64_in _ (by omega)
                have SS := Lib.hid (fun W (hB : Below w1.heap.size w1 W) (hL : BO 32 W wo.heap.size (.int .i64 N0) (.int .i64 N1)) => (show Below w1.heap.size w1 W ∧ W.cell? ⟨wo.heap.size, 0, none⟩ = some (.int .i64 N0) ∧ W.cell? ⟨wo.heap.size, 1, none⟩ = some (.int .i64 N1) ∧ W.cell? ⟨w.heap.size, 1, none⟩ = some (.slice (some ⟨bc, oC, none⟩) m cc) ∧ W.cell? ⟨bc, oC + b, none⟩ = some (.int .i64 c) from
                  ⟨hB, hL.cells.1, hL.cells.2, (C1.out.below hB).cell 1 rfl, (hB.cell (p := ⟨bc, oC + b, none⟩) hbc).trans HCC.out⟩))
                have bn0 : (0 : Int) ≤ (b : Int) := by omega
                have bn1 : (b : Int) < (m : Int) := by omega
                clear WR HL HG HR y1 cc7
                go_upto_region 29 with fail
                go_cut [6, 7, 8] from 39 to 134 (fun s6 s7 s8 wx => ∃ (O' : Option Addr) (oc' : Nat) (T' : Option Addr) (tc' : Nat), s6 = .slice O' (R.length + 1) oc' ∧ s7 = .slice T' (R.length + 1) tc' ∧ s8 = .int .i64 (lf - c) ∧ PhV w1.heap.size gs cS n (D * sz e.ap b) (slR e.ap n (scl (sz e.ap b) R)) ((b, atN e.cs e.ap D R b) :: scl (sz e.ap b) R) (dn ++ [b]) O' oc' T' tc' A7 c7 wx ∧ BO 32 wx wo.heap.size (.int .i64 N0) (.int .i64 N1) ∧ Below w1.heap.size w1 wx)
                case first =>
                  refine wp_region_noPanic ?_
                  refine wp_region_R (inFirst (fun W => Below w1.heap.size w1 W ∧ W.cell? ⟨wo.heap.size, 0, none⟩ = some (.int .i64 N0) ∧ W.cell? ⟨wo.heap.size, 1, none⟩ = some (.int .i64 N1) ∧ W.cell? ⟨w.heap.size, 1, none⟩ = some (.slice (some ⟨bc, oC, none⟩) m cc) ∧ W.cell? ⟨bc, oC + b, none⟩ = some (.int .i64 c)) 18) (by kernel_rfl) ?_
                  obtain ⟨v0, hv0⟩ : ∃ x, w7.drew = x := ⟨_, rfl⟩
                  have PVv0 := Lib.hid (show PhV w1.heap.size gs cS n D (slR e.ap n R) R (dn ++ [b]) O oc T tc A7 c7 v0 from by rw [← hv0]; exact W7.out.below ⟨rfl, rfl, rfl, Nat.le_refl _, fun _ _ => rfl⟩)
                  have LLv0 := Lib.hid (show BO 32 v0 wo.heap.size (.int .i64 N0) (.int .i64 N1) from by rw [← hv0]; exact L7.out.below ⟨rfl, rfl, rfl, Nat.le_refl _, fun _ _ => rfl⟩)
                  have BBv0 := Lib.hid (show Below w1.heap.size w1 v0 from by rw [← hv0]; exact below_drewN B7.out 1)
                  have hS := SS.out v0 BBv0.out LLv0.out
                  rw [hv0]
                  clear hv0
                  refine anyR_take (i := 0) (.slice O R.length oc) rfl (by kernel_rfl) (by kernel_rfl) (by kernel_rfl) (by kernel_rfl) (fun _ _ _ h => h) (by assumption) ⟨by rfl, ?_⟩ ?_
                  · intro W hW
                    go_simp
                  try simp only [Act.put, List.setIfInBounds_toArray, List.set_cons_zero, List.set_cons_succ, List.getElem_toArray, List.getElem_cons_zero, List.getElem_cons_succ]
                  refine anyR_take (i := 1) (.int .i64 (b : Nat)) rfl (by kernel_rfl) (by kernel_rfl) (by kernel_rfl) (by kernel_rfl) (fun _ _ _ h => h) (by assumption) ⟨by rfl, ?_⟩ ?_
                  · intro W hW
                    go_simp
                  try simp only [Act.put, List.setIfInBounds_toArray, List.set_cons_zero, List.set_cons_succ, List.getElem_toArray, List.getElem_cons_zero, List.getElem_cons_succ]
                  refine anyR_take (i := 4) (.slice T R.length tc) rfl (by kernel_rfl) (by kernel_rfl) (by kernel_rfl) (by kernel_rfl) (fun _ _ _ h => h) (by assumption) ⟨by rfl, ?_⟩ ?_
                  · intro W hW
                    go_simp
                  try simp only [Act.put, List.setIfInBounds_toArray, List.set_cons_zero, List.set_cons_succ, List.getElem_toArray, List.getElem_cons_zero, List.getElem_cons_succ]
                  refine anyR_take (i := 5) (.agg #[.int .i64 N0, .int .i64 N1]) rfl (by kernel_rfl) (by kernel_rfl) (by kernel_rfl) (by kernel_rfl) (fun _ _ _ h => h) (by assumption) ⟨by rfl, ?_⟩ ?_
                  · intro W hW
                    go_simp
                  try simp only [Act.put, List.setIfInBounds_toArray, List.set_cons_zero, List.set_cons_succ, List.getElem_toArray, List.getElem_cons_zero, List.getElem_cons_succ]
                  refine anyR_take (i := 8) (.int .i64 lf) rfl (by kernel_rfl) (by kernel_rfl) (by kernel_rfl) (by kernel_rfl) (fun _ _ _ h => h) (by assumption) ⟨by rfl, ?_⟩ ?_
                  · intro W hW
                    go_simp
                  try simp only [Act.put, List.setIfInBounds_toArray, List.set_cons_zero, List.set_cons_succ, List.getElem_toArray, List.getElem_cons_zero, List.getElem_cons_succ]
                  refine anyR_take (i := 9) (.pointer (some ⟨w.heap.size, 1, none⟩)) rfl (by kernel_rfl) (by kernel_rfl) (by kernel_rfl) (by kernel_rfl) (fun _ _ _ h => h) (by assumption) ⟨by rfl, ?_⟩ ?_
                  · intro W hW
                    go_simp
                  try simp only [Act.put, List.setIfInBounds_toArray, List.set_cons_zero, List.set_cons_succ, List.getElem_toArray, List.getElem_cons_zero, List.getElem_cons_succ]
                  refine anyR_take (i := 10) (.slice (some ⟨bc, oC, none⟩) m cc) rfl (by kernel_rfl) (by kernel_rfl) (by kernel_rfl) (by kernel_rfl) (fun _ _ _ h => h) (by assumption) ⟨by rfl, ?_⟩ ?_
                  · intro W hW
                    go_simp
                  try simp only [Act.put, List.setIfInBounds_toArray, List.set_cons_zero, List.set_cons_succ, List.getElem_toArray, List.getElem_cons_zero, List.getElem_cons_succ]
                  refine anyR_take (i := 11) (.int .i64 (b : Nat)) rfl (by kernel_rfl) (by kernel_rfl) (by kernel_rfl) (by kernel_rfl) (fun _ _ _ h => h) (by assumption) ⟨by rfl, ?_⟩ ?_
                  · intro W hW
                    go_simp
                  try simp only [Act.put, List.setIfInBounds_toArray, List.set_cons_zero, List.set_cons_succ, List.getElem_toArray, List.getElem_cons_zero, List.getElem_cons_succ]
                  refine anyR_take (i := 12) (.pointer (some ⟨bc, oC + b, none⟩)) rfl (by kernel_rfl) (by kernel_rfl) (by kernel_rfl) (by kernel_rfl) (fun _ _ _ h => h) (by assumption) ⟨by rfl, ?_⟩ ?_
                  · intro W hW
                    go_simp
                  try simp only [Act.put, List.setIfInBounds_toArray, List.set_cons_zero, List.set_cons_succ, List.getElem_toArray, List.getElem_cons_zero, List.getElem_cons_succ]
                  refine anyR_take (i := 13) (.int .i64 c) rfl (by kernel_rfl) (by kernel_rfl) (by kernel_rfl) (by kernel_rfl) (fun _ _ _ h => h) (by assumption) ⟨by rfl, ?_⟩ ?_
                  · intro W hW
                    go_simp
                  try simp only [Act.put, List.setIfInBounds_toArray, List.set_cons_zero, List.set_cons_succ, List.getElem_toArray, List.getElem_cons_zero, List.getElem_cons_succ]
                  refine anyR_take (i := 14) (.int .i64 (lf - c)) rfl (by kernel_rfl) (by kernel_rfl) (by kernel_rfl) (by kernel_rfl) (fun _ _ _ h => h) (by assumption) ⟨by rfl, ?_⟩ ?_
                  · intro W hW
                    go_simp
                  try simp only [Act.put, List.setIfInBounds_toArray, List.set_cons_zero, List.set_cons_succ, List.getElem_toArray, List.getElem_cons_zero, List.getElem_cons_succ]
                  refine anyR_two (i := 2) (j := 6) (by kernel_rfl) rfl rfl ?_ ?_
                  · intro K hK
                    go_simp
                    have a2 := bel_alloc v0 (.cells #[.int .i64 (b : Int)] 2)
                    have HI : ((v0).alloc (.cells #[.int .i64 (b : Int)] 2)).cell? ⟨(v0).heap.size, 0, none⟩ = some (.int .i64 (b : Int)) := World.cell?_alloc_at _ _ _ _ rfl
                    have gi : (v0).heap.size < ((v0).alloc (.cells #[.int .i64 (b : Int)] 2)).heap.size := by simp
                    obtain ⟨gI, hgI⟩ : ∃ z, (v0).heap.size = z := ⟨_, rfl⟩
                    obtain ⟨v1, hU⟩ : ∃ z, (v0).alloc (.cells #[.int .i64 (b : Int)] 2) = z := ⟨_, rfl⟩
                    rw [hU] at a2 HI gi
                    rw [hgI] at HI gi
                    rw [hU]
                    try rw [hgI]
                    clear hU
                    have PVv1 := Lib.hid (PVv0.out.below a2)
                    have LLv1 := Lib.hid (LLv0.out.below a2)
                    have BBv1 := Lib.hid (bel_trans BBv0.out a2)
                    have hT := SS.out v1 BBv1.out LLv1.out
                    refine hK.out _ _ (fun _ => hT) ?_
                    clear hS
                    have hS := hT
                    clear hT
                    clear hK K
                    try simp only [Act.put, List.setIfInBounds_toArray, List.set_cons_zero, List.set_cons_succ, List.getElem_toArray, List.getElem_cons_zero, List.getElem_cons_succ]
                    refine anyR_two (i := 3) (j := 6) (by kernel_rfl) rfl rfl ?_ ?_
                    · intro K hK
                      have szV := BBv1.out.size
                      refine step_app_int _ (by rfl) _ _ (by rfl) w1.heap.size O R.length oc _ (by rfl) PVv1.out.out (b : Int) (by omega) (by omega) gI (by rfl) HI (by omega) szV ?_
                      intro A5 c5 v2 p1 p2 p3
                      have LLv2 := Lib.hid (LLv1.out.keep PVv1.out.out.1 (n := 0) p2 (by decide))
                      have BBv2 := Lib.hid (BBv1.out.grown p2 szV (fun x hx => (PVv1.out.out.block x hx).1))
                      have TM := Lib.hid ((PVv1.out.tmS D1 K1).kept p2 (own_ne PVv1.out.tm.1 PVv1.out.out.1 (by decide)))
                      have P1 := Lib.hid p1
                      have P2 := Lib.hid p2
                      have P3 := Lib.hid p3
                      have hT := SS.out v2 BBv2.out LLv2.out
                      refine hK.out _ _ (fun _ => hT) ?_
                      clear hS
                      have hS := hT
                      clear hT szV
                      clear hK K
                      try simp only [Act.put, List.setIfInBounds_toArray, List.set_cons_zero, List.set_cons_succ, List.getElem_toArray, List.getElem_cons_zero, List.getElem_cons_succ]
                      refine anyR_one (i := 6) (by kernel_rfl) rfl ?_
                      intro K hK
                      go_simp
                      have a6 := bel_alloc v2 (.cells #[.int .i64 N0, .int .i64 N1] 32)
                      have FB := Lib.hid (BO.new 32 v2 (.int .i64 N0) (.int .i64 N1))
                      obtain ⟨gF, hgF⟩ : ∃ z, (v2).heap.size = z := ⟨_, rfl⟩
                      obtain ⟨v3, hU⟩ : ∃ z, (v2).alloc (.cells #[.int .i64 N0, .int .i64 N1] 32) = z := ⟨_, rfl⟩
                      rw [hU] at a6 FB
                      rw [hgF] at FB
                      rw [hU]
                      try rw [hgF]
                      clear hU
                      have LLv3 := Lib.hid (LLv2.out.below a6)
                      have BBv3 := Lib.hid (bel_trans BBv2.out a6)
                      have hT := SS.out v3 BBv3.out LLv3.out
                      refine hK.out _ _ (fun _ => hT) ?_
                      clear hS
                      have hS := hT
                      clear hT
                      clear hK K
                      try simp only [Act.put, List.setIfInBounds_toArray, List.set_cons_zero, List.set_cons_succ, List.getElem_toArray, List.getElem_cons_zero, List.getElem_cons_succ]
                      refine anyR_one (i := 7) (by kernel_rfl) rfl ?_
                      intro K hK
                      have szV := BBv3.out.size
                      have TM7 := Lib.hid (TM.out.below a6)
                      have FB7 := Lib.hid (FB.out)
                      refine step_app_fr _ (by rfl) _ _ (by rfl) w1.heap.size T R.length tc (D * sz e.ap b) _ (by rfl) TM7.out (atN e.cs e.ap D R b) N0 N1 BV2.out.1.symm BV2.out.2.symm gF (by rfl) FB7.out.cells.1 FB7.out.cells.2 (by omega) szV ?_
                      intro A6 c6 v4 q1 q2 q3
                      have PVN := Lib.hid (PVv1.out.buyS D1 K1 P1.out P2.out P3.out (a6) q1 q2 q3)
                      have LLv4 := Lib.hid (LLv3.out.off q2 (fun x hx => by have := FR.out x hx; omega))
                      have BBv4 := Lib.hid (BBv3.out.grown q2 szV (fun x hx => (TM7.out.block x hx).1))
                      have hT := SS.out v4 BBv4.out LLv4.out
                      refine hK.out _ _ (fun _ => hT) ?_
                      clear hS q1 q2 q3
                      have hS := hT
                      clear hT szV
                      clear hK K
                      try simp only [Act.put, List.setIfInBounds_toArray, List.set_cons_zero, List.set_cons_succ, List.getElem_toArray, List.getElem_cons_zero, List.getElem_cons_succ]
                      refine anyR_take (i := 15) (.slice A5 (R.length + 1) c5) rfl (by kernel_rfl) (by kernel_rfl) (by kernel_rfl) (by kernel_rfl) (fun _ _ _ h => h) (by assumption) ⟨by rfl, ?_⟩ ?_
                      · intro W hW
                        go_simp
                      try simp only [Act.put, List.setIfInBounds_toArray, List.set_cons_zero, List.set_cons_succ, List.getElem_toArray, List.getElem_cons_zero, List.getElem_cons_succ]
                      refine anyR_take (i := 16) (.slice A6 (R.length + 1) c6) rfl (by kernel_rfl) (by kernel_rfl) (by kernel_rfl) (by kernel_rfl) (fun _ _ _ h => h) (by assumption) ⟨by rfl, ?_⟩ ?_
                      · intro W hW
                        go_simp
                      try simp only [Act.put, List.setIfInBounds_toArray, List.set_cons_zero, List.set_cons_succ, List.getElem_toArray, List.getElem_cons_zero, List.getElem_cons_succ]
                      refine anyR_take (i := 17) (.int .i64 (lf - c)) rfl (by kernel_rfl) (by kernel_rfl) (by kernel_rfl) (by kernel_rfl) (fun _ _ _ h => h) (by assumption) ⟨by rfl, ?_⟩ ?_
                      · intro W hW
                        go_simp
                      try simp only [Act.put, List.setIfInBounds_toArray, List.set_cons_zero, List.set_cons_succ, List.getElem_toArray, List.getElem_cons_zero, List.getElem_cons_succ]
                      refine anyR_done (by kernel_rfl) ?_ _
                      refine NoPanic.normal ?_
                      go_wp2_with fail
                      go_meet
                      case rel => exact ⟨A5, c5, A6, c6, rfl, rfl, rfl, PVN.out, LLv4.out, BBv4.out⟩
                    · intro K hK
                      go_simp
                      have a6 := bel_alloc v1 (.cells #[.int .i64 N0, .int .i64 N1] 32)
                      have FB := Lib.hid (BO.new 32 v1 (.int .i64 N0) (.int .i64 N1))
                      obtain ⟨gF, hgF⟩ : ∃ z, (v1).heap.size = z := ⟨_, rfl⟩
                      obtain ⟨v2, hU⟩ : ∃ z, (v1).alloc (.cells #[.int .i64 N0, .int .i64 N1] 32) = z := ⟨_, rfl⟩
                      rw [hU] at a6 FB
                      rw [hgF] at FB
                      rw [hU]
                      try rw [hgF]
                      clear hU
                      have LLv2 := Lib.hid (LLv1.out.below a6)
                      have BBv2 := Lib.hid (bel_trans BBv1.out a6)
                      have hT := SS.out v2 BBv2.out LLv2.out
                      refine hK.out _ _ (fun _ => hT) ?_
                      clear hS
                      have hS := hT
                      clear hT
                      clear hK K
                      try simp only [Act.put, List.setIfInBounds_toArray, List.set_cons_zero, List.set_cons_succ, List.getElem_toArray, List.getElem_cons_zero, List.getElem_cons_succ]
                      have PVv2 := Lib.hid (PVv1.out.below a6)
                      have HI := (a6.cell (p := ⟨gI, 0, none⟩) gi).trans HI
                      refine anyR_one (i := 3) (by kernel_rfl) rfl ?_
                      intro K hK
                      have szV := BBv2.out.size
                      refine step_app_int _ (by rfl) _ _ (by rfl) w1.heap.size O R.length oc _ (by rfl) PVv2.out.out (b : Int) (by omega) (by omega) gI (by rfl) HI (by omega) szV ?_
                      intro A5 c5 v3 p1 p2 p3
                      have LLv3 := Lib.hid (LLv2.out.keep PVv2.out.out.1 (n := 0) p2 (by decide))
                      have BBv3 := Lib.hid (BBv2.out.grown p2 szV (fun x hx => (PVv2.out.out.block x hx).1))
                      have TM := Lib.hid ((PVv2.out.tmS D1 K1).kept p2 (own_ne PVv2.out.tm.1 PVv2.out.out.1 (by decide)))
                      have P1 := Lib.hid p1
                      have P2 := Lib.hid p2
                      have P3 := Lib.hid p3
                      have hT := SS.out v3 BBv3.out LLv3.out
                      refine hK.out _ _ (fun _ => hT) ?_
                      clear hS
                      have hS := hT
                      clear hT szV
                      clear hK K
                      try simp only [Act.put, List.setIfInBounds_toArray, List.set_cons_zero, List.set_cons_succ, List.getElem_toArray, List.getElem_cons_zero, List.getElem_cons_succ]
                      refine anyR_one (i := 7) (by kernel_rfl) rfl ?_
                      intro K hK
                      have szV := BBv3.out.size
                      have TM7 := Lib.hid (TM.out)
                      have FB7 := Lib.hid (FB.out.keep PVv2.out.out.1 (n := 0) P2.out (by decide))
                      refine step_app_fr _ (by rfl) _ _ (by rfl) w1.heap.size T R.length tc (D * sz e.ap b) _ (by rfl) TM7.out (atN e.cs e.ap D R b) N0 N1 BV2.out.1.symm BV2.out.2.symm gF (by rfl) FB7.out.cells.1 FB7.out.cells.2 (by omega) szV ?_
                      intro A6 c6 v4 q1 q2 q3
                      have PVN := Lib.hid (PVv2.out.buyS D1 K1 P1.out P2.out P3.out (Below.refl _ _) q1 q2 q3)
                      have LLv4 := Lib.hid (LLv3.out.off q2 (fun x hx => by have := FR.out x hx; omega))
                      have BBv4 := Lib.hid (BBv3.out.grown q2 szV (fun x hx => (TM7.out.block x hx).1))
                      have hT := SS.out v4 BBv4.out LLv4.out
                      refine hK.out _ _ (fun _ => hT) ?_
                      clear hS q1 q2 q3
                      have hS := hT
                      clear hT szV
                      clear hK K
                      try simp only [Act.put, List.setIfInBounds_toArray, List.set_cons_zero, List.set_cons_succ, List.getElem_toArray, List.getElem_cons_zero, List.getElem_cons_succ]
                      refine anyR_take (i := 15) (.slice A5 (R.length + 1) c5) rfl (by kernel_rfl) (by kernel_rfl) (by kernel_rfl) (by kernel_rfl) (fun _ _ _ h => h) (by assumption) ⟨by rfl, ?_⟩ ?_
                      · intro W hW
                        go_simp
                      try simp only [Act.put, List.setIfInBounds_toArray, List.set_cons_zero, List.set_cons_succ, List.getElem_toArray, List.getElem_cons_zero, List.getElem_cons_succ]
                      refine anyR_take (i := 16) (.slice A6 (R.length + 1) c6) rfl (by kernel_rfl) (by kernel_rfl) (by kernel_rfl) (by kernel_rfl) (fun _ _ _ h => h) (by assumption) ⟨by rfl, ?_⟩ ?_
                      · intro W hW
                        go_simp
                      try simp only [Act.put, List.setIfInBounds_toArray, List.set_cons_zero, List.set_cons_succ, List.getElem_toArray, List.getElem_cons_zero, List.getElem_cons_succ]
                      refine anyR_take (i := 17) (.int .i64 (lf - c)) rfl (by kernel_rfl) (by kernel_rfl) (by kernel_rfl) (by kernel_rfl) (fun _ _ _ h => h) (by assumption) ⟨by rfl, ?_⟩ ?_
                      · intro W hW
                        go_simp
                      try simp only [Act.put, List.setIfInBounds_toArray, List.set_cons_zero, List.set_cons_succ, List.getElem_toArray, List.getElem_cons_zero, List.getElem_cons_succ]
                      refine anyR_done (by kernel_rfl) ?_ _
                      refine NoPanic.normal ?_
                      go_wp2_with fail
                      go_meet
                      case rel => exact ⟨A5, c5, A6, c6, rfl, rfl, rfl, PVN.out, LLv4.out, BBv4.out⟩
                  · intro K hK
                    go_simp
                    have a6 := bel_alloc v0 (.cells #[.int .i64 N0, .int .i64 N1] 32)
                    have FB := Lib.hid (BO.new 32 v0 (.int .i64 N0) (.int .i64 N1))
                    obtain ⟨gF, hgF⟩ : ∃ z, (v0).heap.size = z := ⟨_, rfl⟩
                    obtain ⟨v1, hU⟩ : ∃ z, (v0).alloc (.cells #[.int .i64 N0, .int .i64 N1] 32) = z := ⟨_, rfl⟩
                    rw [hU] at a6 FB
                    rw [hgF] at FB
                    rw [hU]
                    try rw [hgF]
                    clear hU
                    have LLv1 := Lib.hid (LLv0.out.below a6)
                    have BBv1 := Lib.hid (bel_trans BBv0.out a6)
                    have hT := SS.out v1 BBv1.out LLv1.out
                    refine hK.out _ _ (fun _ => hT) ?_
                    clear hS
                    have hS := hT
                    clear hT
                    clear hK K
                    try simp only [Act.put, List.setIfInBounds_toArray, List.set_cons_zero, List.set_cons_succ, List.getElem_toArray, List.getElem_cons_zero, List.getElem_cons_succ]
                    have PVv1 := Lib.hid (PVv0.out.below a6)
                    refine anyR_one (i := 2) (by kernel_rfl) rfl ?_
                    intro K hK
                    go_simp
                    have a2 := bel_alloc v1 (.cells #[.int .i64 (b : Int)] 2)
                    have HI : ((v1).alloc (.cells #[.int .i64 (b : Int)] 2)).cell? ⟨(v1).heap.size, 0, none⟩ = some (.int .i64 (b : Int)) := World.cell?_alloc_at _ _ _ _ rfl
                    have gi : (v1).heap.size < ((v1).alloc (.cells #[.int .i64 (b : Int)] 2)).heap.size := by simp
                    obtain ⟨gI, hgI⟩ : ∃ z, (v1).heap.size = z := ⟨_, rfl⟩
                    obtain ⟨v2, hU⟩ : ∃ z, (v1).alloc (.cells #[.int .i64 (b : Int)] 2) = z := ⟨_, rfl⟩
                    rw [hU] at a2 HI gi
                    rw [hgI] at HI gi
                    rw [hU]
                    try rw [hgI]
                    clear hU
                    have PVv2 := Lib.hid (PVv1.out.below a2)
                    have LLv2 := Lib.hid (LLv1.out.below a2)
                    have BBv2 := Lib.hid (bel_trans BBv1.out a2)
                    have hT := SS.out v2 BBv2.out LLv2.out
                    refine hK.out _ _ (fun _ => hT) ?_
                    clear hS
                    have hS := hT
                    clear hT
                    clear hK K
                    try simp only [Act.put, List.setIfInBounds_toArray, List.set_cons_zero, List.set_cons_succ, List.getElem_toArray, List.getElem_cons_zero, List.getElem_cons_succ]
                    refine anyR_one (i := 3) (by kernel_rfl) rfl ?_
                    intro K hK
                    have szV := BBv2.out.size
                    refine step_app_int _ (by rfl) _ _ (by rfl) w1.heap.size O R.length oc _ (by rfl) PVv2.out.out (b : Int) (by omega) (by omega) gI (by rfl) HI (by omega) szV ?_
                    intro A5 c5 v3 p1 p2 p3
                    have LLv3 := Lib.hid (LLv2.out.keep PVv2.out.out.1 (n := 0) p2 (by decide))
                    have BBv3 := Lib.hid (BBv2.out.grown p2 szV (fun x hx => (PVv2.out.out.block x hx).1))
                    have TM := Lib.hid ((PVv2.out.tmS D1 K1).kept p2 (own_ne PVv2.out.tm.1 PVv2.out.out.1 (by decide)))
                    have P1 := Lib.hid p1
                    have P2 := Lib.hid p2
                    have P3 := Lib.hid p3
                    have hT := SS.out v3 BBv3.out LLv3.out
                    refine hK.out _ _ (fun _ => hT) ?_
                    clear hS
                    have hS := hT
                    clear hT szV
                    clear hK K
                    try simp only [Act.put, List.setIfInBounds_toArray, List.set_cons_zero, List.set_cons_succ, List.getElem_toArray, List.getElem_cons_zero, List.getElem_cons_succ]
                    refine anyR_one (i := 7) (by kernel_rfl) rfl ?_
                    intro K hK
                    have szV := BBv3.out.size
                    have TM7 := Lib.hid (TM.out)
                    have FB7 := Lib.hid ((FB.out.below a2).keep PVv2.out.out.1 (n := 0) P2.out (by decide))
                    refine step_app_fr _ (by rfl) _ _ (by rfl) w1.heap.size T R.length tc (D * sz e.ap b) _ (by rfl) TM7.out (atN e.cs e.ap D R b) N0 N1 BV2.out.1.symm BV2.out.2.symm gF (by rfl) FB7.out.cells.1 FB7.out.cells.2 (by omega) szV ?_
                    intro A6 c6 v4 q1 q2 q3
                    have PVN := Lib.hid (PVv2.out.buyS D1 K1 P1.out P2.out P3.out (Below.refl _ _) q1 q2 q3)
                    have LLv4 := Lib.hid (LLv3.out.off q2 (fun x hx => by have := FR.out x hx; omega))
                    have BBv4 := Lib.hid (BBv3.out.grown q2 szV (fun x hx => (TM7.out.block x hx).1))
                    have hT := SS.out v4 BBv4.out LLv4.out
                    refine hK.out _ _ (fun _ => hT) ?_
                    clear hS q1 q2 q3
                    have hS := hT
                    clear hT szV
                    clear hK K
                    try simp only [Act.put, List.setIfInBounds_toArray, List.set_cons_zero, List.set_cons_succ, List.getElem_toArray, List.getElem_cons_zero, List.getElem_cons_succ]
                    refine anyR_take (i := 15) (.slice A5 (R.length + 1) c5) rfl (by kernel_rfl) (by kernel_rfl) (by kernel_rfl) (by kernel_rfl) (fun _ _ _ h => h) (by assumption) ⟨by rfl, ?_⟩ ?_
                    · intro W hW
                      go_simp
                    try simp only [Act.put, List.setIfInBounds_toArray, List.set_cons_zero, List.set_cons_succ, List.getElem_toArray, List.getElem_cons_zero, List.getElem_cons_succ]
                    refine anyR_take (i := 16) (.slice A6 (R.length + 1) c6) rfl (by kernel_rfl) (by kernel_rfl) (by kernel_rfl) (by kernel_rfl) (fun _ _ _ h => h) (by assumption) ⟨by rfl, ?_⟩ ?_
                    · intro W hW
                      go_simp
                    try simp only [Act.put, List.setIfInBounds_toArray, List.set_cons_zero, List.set_cons_succ, List.getElem_toArray, List.getElem_cons_zero, List.getElem_cons_succ]
                    refine anyR_take (i := 17) (.int .i64 (lf - c)) rfl (by kernel_rfl) (by kernel_rfl) (by kernel_rfl) (by kernel_rfl) (fun _ _ _ h => h) (by assumption) ⟨by rfl, ?_⟩ ?_
                    · intro W hW
                      go_simp
                    try simp only [Act.put, List.setIfInBounds_toArray, List.set_cons_zero, List.set_cons_succ, List.getElem_toArray, List.getElem_cons_zero, List.getElem_cons_succ]
                    refine anyR_done (by kernel_rfl) ?_ _
                    refine NoPanic.normal ?_
                    go_wp2_with fail
                    go_meet
                    case rel => exact ⟨A5, c5, A6, c6, rfl, rfl, rfl, PVN.out, LLv4.out, BBv4.out⟩
                case rest =>
                obtain ⟨O', oc', T', tc', rfl, rfl, rfl, hw, hl, hb⟩ := hcut
                have SB := Lib.hid (HS.out.buy OK.out LB.out (by rw [GD.out]; omega))
                obtain ⟨t0, ht0⟩ : ∃ z, atN e.cs e.ap D R b = z := ⟨_, rfl⟩
                obtain ⟨D', hD'⟩ : ∃ z, D * sz e.ap b = z := ⟨_, rfl⟩
                obtain ⟨R', hR'⟩ : ∃ z, scl (sz e.ap b) R = z := ⟨_, rfl⟩
                have RL := Lib.hid (show R'.length = R.length by rw [← hR', scl_len])
                rw [ht0, hD', hR', GD.out] at SB
                rw [ht0, hD', hR'] at hw
                rw [ht0, hD'] at BV2
                have W8 := Lib.hid hw
                have L8 := Lib.hid hl
                have B8 := Lib.hid hb
                have gso : gs < wo.heap.size := (HW.out.sp.block gs rfl).2
                have gsc : gs < wc.heap.size := (hw.sp.block gs rfl).2
                have C8 := C1.out.below hb
                have H8 := Lib.hid (H1.out.below hb)
                have y0 := C8.cell 0 rfl
                have y1 := C8.cell 1 rfl
                have y2 := C8.cell 2 rfl
                have SU := Lib.hid (supporters_ok e.mon (some ⟨bc, oC, none⟩) m cc AA n ac e.ap b wc H8.out.a (by omega))
                clear hw hl hb W7 L7 B7 C8 ht0 hD' hR' SS
                go_wp2_with fail
                refine SU.out.mono ?_
                rintro r w9 ⟨SA, Ls, sc, rfl, hs, b9⟩
                have W9 := Lib.hid (W8.out.below b9)
                have L9 := Lib.hid (L8.out.below b9)
                have B9 := Lib.hid (bel_trans B8.out b9)
                have S9 := Lib.hid hs
                have HLS := Lib.hid (show (supN e.ap (b : Int) n).length = Ls by have := hs.len; rwa [zns_len] at this)
                have Ls6 : Ls ≤ 6 := by have := supN_len e.ap (b : Int) n; have := HLS.out; omega
                have SBK := Lib.hid (fun g (e : (Value.slice SA Ls sc).ownBlock = some g) => (hs.block g e).1)
                clear hs b9 SU y0 y1 y2 W8 L8 B8 H8
                go_wp2_with fail
                go_loopw [126] (fun t wr => ∃ i : Nat, i ≤ Ls ∧ t = .int .i64 i ∧ PhV w1.heap.size gs cS n D' (slI e.ap n R' t0 ((supN e.ap (b : Int) n).take i)) ((b, t0) :: R') (dn ++ [b]) O' oc' T' tc' A7 c7 wr ∧ w9.grownBy wr (some gs)) (fun t _ => Ls - (intOf t).toNat)
                case atStart => exact ⟨0, Nat.zero_le _, rfl, by rw [List.take_zero, slI_nil]; exact W9.out, World.grownBy.refl _ _⟩
                case round =>
                  obtain ⟨i, hi, rfl, hw, hg⟩ := hrel
                  have WI := Lib.hid hw
                  have GI := Lib.hid hg
                  have SI := Lib.hid (S9.out.kept hg (blk_neP SBK.out gsc))
                  have LI := Lib.hid (L9.out.far hg (by omega))
                  clear hw hg
                  by_cases hil : i < Ls
                  · have d2 := decide_eq_true (show (i : Int) < (Ls : Int) by omega)
                    have i0 : (0 : Int) ≤ (i : Int) := by omega
                    have k1 : (i : Int) < (Ls : Int) := by omega
                    obtain ⟨v, hvx⟩ : ∃ v, (supN e.ap (b : Int) n)[i]? = some v := ⟨_, List.getElem?_eq_getElem (by rw [HLS.out]; exact hil)⟩
                    have hvn := (supN_mem (List.mem_of_getElem? hvx)).1
                    obtain ⟨bS, oS, rfl, hbS, cS6⟩ := ints_get' SI.out.ints (zns_at hvx)
                    obtain ⟨a0, ha0⟩ : ∃ a, (slI e.ap n R' t0 ((supN e.ap (b : Int) n).take i))[v]? = some a := ⟨_, List.getElem?_eq_getElem (by unfold slI; simpa using hvn)⟩
                    obtain ⟨q0, q1, fz, gs2, gs3⟩ := WI.out.cell ha0
                    have f0 := fz (v * 2)
                    have f1 := fz (v * 2 + 1)
                    have x0 := LI.out.cells.1
                    have x1 := LI.out.cells.2
                    have vn0 : (v : Int) < (n : Int) := by omega
                    have vn1 : (0 : Int) ≤ (v : Int) := by omega
                    have PT := Lib.hid (WI.out.put (t := t0) ha0)
                    rw [slI_snoc, ← BV2.out.1, ← BV2.out.2] at PT
                    have NX := Lib.hid (show (supN e.ap (b : Int) n).take (i + 1) = (supN e.ap (b : Int) n).take i ++ [v] by rw [List.take_add_one, hvx]; rfl)
                    clear ha0 hvx fz
                    go_wp2_with fail
                    go_roundw
                    case rel => exact ⟨i + 1, by omega, by go_num, by rw [NX.out]; exact PT.out.1, grown_trans GI.out PT.out.2⟩
                    case measure => simp [intOf]; omega
                  · obtain rfl : Ls = i := by omega
                    have d2 := decide_eq_false (show ¬ (Ls : Int) < (Ls : Int) by omega)
                    have WF := WI.out
                    rw [List.take_of_length_le (Nat.le_of_eq HLS.out), slI_all] at WF
                    have WFH := Lib.hid WF
                    have BF := Lib.hid (B9.out.grown GI.out B9.out.size (fun x hx => by injection hx with hx; omega))
                    have E1 : R.length + 1 = ((b, t0) :: R').length := by rw [List.length_cons, RL.out]
                    have E2 : dn.length + 1 = (dn ++ [b]).length := by simp
                    have E1H := Lib.hid E1
                    have E2H := Lib.hid E2
                    clear WF E1 E2 SI
                    go_wp2_with fail
                    rw [E1H.out, E2H.out]
                    go_roundw
                    case rel => exact ⟨D', lf - c, (b, t0) :: R', dn ++ [b], O', oc', T', tc', A7, c7, rfl, rfl, rfl, rfl, SB.out, WFH.out, BF.out⟩
                    case measure => simp; omega
end Go.Proofs.Ytiodbjfchfmlcaa
