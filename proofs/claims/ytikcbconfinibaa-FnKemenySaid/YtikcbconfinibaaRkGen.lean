/- The profile that a law draws; copies and reversals of profiles. -/
import Derived.Test.YtikcbconfinibaaRkDraw
import Derived.Test.YtikcbconfinibaaRkV
import Derived.Test.YtikcbconfinibaaStepApp2
import Derived.Test.YtikcbconfinibaaPhase
namespace Go.Proofs.Ytikcbconfinibaa
set_option linter.unusedVariables false
set_option linter.unusedSimpArgs false
set_option maxRecDepth 100000
open Go.RowKit Go.Deep
def R8P (w : World) (e : Ending) (w' : World) : Prop :=
  ∃ (m : Nat) (rs : List (List Nat)) (ws : List Int) (RA : Option Addr) (rc : Nat) (WA : Option Addr) (wc : Nat), e = .returned (.agg #[.slice RA rs.length rc, .slice WA rs.length wc]) ∧ PrOk m rs ws ∧ PrV w' RA rc WA wc rs ws ∧ Below w.heap.size w w'
theorem R8Profile_any (A : Option Addr) (n c : Nat) (bs : List Int) (w : World) (h : Ints .u8 w A n c bs) :
    Calls Try.prog 8 #[.slice A n c] w (R8P w) := by
  have b0 := bel_alloc w (.cells #[.slice none 0 0, .slice none 0 0] 27)
  have R0 := Lib.hid (BO.new 27 w (.slice none 0 0) (.slice none 0 0))
  have HH := Lib.hid (h.below b0)
  have B0 := Lib.hid b0
  have sz0 : (w.alloc (.cells #[.slice none 0 0, .slice none 0 0] 27)).heap.size = w.heap.size + 1 := by simp
  clear b0 h
  go_enter Try.func8, Try.ntmps8
  go_wp2_with fail
  refine (l00From_any A n c bs _ HH.out).mono ?_
  rintro e w1 ⟨g, rfl, hg, hs, hb⟩
  have R1 := Lib.hid (R0.out.below hb)
  have B1 := Lib.hid (bel_trans B0.out hb)
  have S1 := Lib.hid hs
  have sz1 := hb.size
  clear hb hs
  go_wp2_with fail
  refine (l06DrawOk_any g A n c bs w1 S1.out).mono ?_
  rintro e w2 ⟨m, rs, ws, RA, rc, vs, WA, wc, rfl, ok, oM, oI, hg2⟩
  have R2 := Lib.hid (R1.out.far hg2 (by omega))
  have B2 := Lib.hid (B1.out.grown hg2 B1.out.size (fun r hr => by injection hr with hr; omega))
  have OK := Lib.hid ok
  have rc0 := R2.out.cells.1
  have rc1 := R2.out.cells.2
  have rf0 := R2.out.free 0
  have rf1 := R2.out.free 1
  obtain ⟨s1, s2⟩ := R2.out.set0 (.slice RA rs.length rc)
  obtain ⟨s3, s4⟩ := s1.set1 (.slice WA rs.length wc)
  have ME := Lib.hid ((oM.setB R2.out s2 (by decide) (by decide)).setB s1 s4 (by decide) (by decide))
  have IE := Lib.hid (show OwnI ((w2.setCell ⟨w.heap.size, 0, none⟩ (.slice RA rs.length rc)).setCell ⟨w.heap.size, 1, none⟩ (.slice WA rs.length wc)) w1.heap.size WA rs.length wc ws from ⟨s1.keeps (n := 0) (R2.out.keeps (n := 0) oI.1 s2 (by decide)) s4 (by decide), oI.2⟩)
  have BE := Lib.hid ((B2.out.setCell (p := ⟨w.heap.size, 0, none⟩) (Nat.le_refl _) (.slice RA rs.length rc)).setCell (p := ⟨w.heap.size, 1, none⟩) (Nat.le_refl _) (.slice WA rs.length wc))
  have RE0 := Lib.hid s3.cells.1
  have RE1 := Lib.hid s3.cells.2
  clear s1 s2 s3 s4 ok oM oI hg2
  go_wp2_with fail
  obtain ⟨w9, hw9⟩ : ∃ z, (w2.setCell ⟨w.heap.size, 0, none⟩ (.slice RA rs.length rc)).setCell ⟨w.heap.size, 1, none⟩ (.slice WA rs.length wc) = z := ⟨_, rfl⟩
  rw [hw9] at ME IE BE RE0 RE1 ⊢
  have re0 := RE0.out
  have re1 := RE1.out
  have MR := ME.out.rws
  exact bodyPost_ret (v := .agg #[.slice RA rs.length rc, .slice WA rs.length wc]) (by simp [results, Try.results8, go_sem, re0, re1]) rfl ⟨m, rs, ws, RA, rc, WA, wc, rfl, OK.out, ⟨MR, IE.out.ints⟩, BE.out⟩
def ClonedP (rs : List (List Nat)) (ws : List Int) (w : World) (e : Ending) (w' : World) : Prop :=
  ∃ (g rc : Nat) (vs : List Value) (WA : Option Addr) (wc : Nat), e = .returned (.agg #[.slice (some ⟨g, 0, none⟩) rs.length rc, .slice WA rs.length wc]) ∧ OwnM w' w.heap.size (some ⟨g, 0, none⟩) rs.length rc vs (rs.map zr) ∧ OwnI w' w.heap.size WA rs.length wc ws ∧ (∀ v ∈ vs, Apart v (.slice WA rs.length wc)) ∧ Below w.heap.size w w'
theorem ownI_0 {w : World} {base m c : Nat} {A : Option Addr} {zs : List Int} (h : OwnI w base A (0 + m) c ([] ++ zs)) : OwnI w base A m c zs := by rw [Nat.zero_add] at h; exact h
set_option maxHeartbeats 4000000 in
theorem cloneProfile_ok (n : Nat) (rs : List (List Nat)) (ws : List Int) (ok : PrOk n rs ws) (RA : Option Addr) (rc : Nat) (WA : Option Addr) (wc : Nat) (w : World) (h : PrV w RA rc WA wc rs ws) :
    Calls Try.prog 31 #[.agg #[.slice RA rs.length rc, .slice WA rs.length wc]] w (ClonedP rs ws w) := by
  have n1 := ok.n1
  have n6 := ok.n6
  have m1 := ok.m1
  have m12 := ok.m12
  have h0 := h
  have ba := bel_alloc w (.cells #[.slice RA rs.length rc, .slice WA rs.length wc] 27)
  have bb := bel_alloc (w.alloc (.cells #[.slice RA rs.length rc, .slice WA rs.length wc] 27)) (.cells #[.slice none 0 0, .slice none 0 0] 27)
  have bc := bel_alloc ((w.alloc (.cells #[.slice RA rs.length rc, .slice WA rs.length wc] 27)).alloc (.cells #[.slice none 0 0, .slice none 0 0] 27)) (.cells #[] 2)
  have C0 := (Cs.new w [.slice RA rs.length rc, .slice WA rs.length wc] 27)
  have R0 := BO.new 27 (w.alloc (.cells #[.slice RA rs.length rc, .slice WA rs.length wc] 27)) (.slice none 0 0) (.slice none 0 0)
  have oL := ownI_lit ((w.alloc (.cells #[.slice RA rs.length rc, .slice WA rs.length wc] 27)).alloc (.cells #[.slice none 0 0, .slice none 0 0] 27))
  have sA : (w.alloc (.cells #[.slice RA rs.length rc, .slice WA rs.length wc] 27)).heap.size = w.heap.size + 1 := by simp
  have sB : ((w.alloc (.cells #[.slice RA rs.length rc, .slice WA rs.length wc] 27)).alloc (.cells #[.slice none 0 0, .slice none 0 0] 27)).heap.size = w.heap.size + 2 := by simp
  rw [sA] at R0
  rw [sB] at oL
  have CB := Lib.hid (C0.below (bel_trans bb bc))
  have RB := Lib.hid (R0.below bc)
  have OB := Lib.hid oL
  have BB := Lib.hid (bel_trans ba (bel_trans bb bc))
  have H := Lib.hid (h.below (bel_trans ba (bel_trans bb bc)))
  have OK := Lib.hid ok
  have sz : (((w.alloc (.cells #[.slice RA rs.length rc, .slice WA rs.length wc] 27)).alloc (.cells #[.slice none 0 0, .slice none 0 0] 27)).alloc (.cells #[] 2)).heap.size = w.heap.size + 3 := by simp
  have lo0 : w.heap.size + 2 ≤ (((w.alloc (.cells #[.slice RA rs.length rc, .slice WA rs.length wc] 27)).alloc (.cells #[.slice none 0 0, .slice none 0 0] 27)).alloc (.cells #[] 2)).heap.size := by omega
  have y0 := CB.out.cell 0 rfl
  have y1 := CB.out.cell 1 rfl
  have mm : rs.length ≤ 1048576 := by omega
  have ea : w.heap.size + 1 + 1 = w.heap.size + 2 := by omega
  have CNE := Lib.hid (show some w.heap.size ≠ (Value.slice (some ⟨w.heap.size + 2, 0, none⟩) 0 0).ownBlock from by simp [Value.ownBlock])
  clear ba bb bc C0 R0 oL sA sB h ok
  go_enter Try.func31, Try.ntmps31
  go_wp2_with (at_builtin; refine app_ints (((w.alloc (.cells #[.slice RA rs.length rc, .slice WA rs.length wc] 27)).alloc (.cells #[.slice none 0 0, .slice none 0 0] 27)).alloc (.cells #[] 2)) rfl _ _ rfl (w.heap.size + 2) (some ⟨w.heap.size + 2, 0, none⟩) 0 0 [] rfl OB.out WA rs.length wc wc ws rfl H.out.wts (by omega) mm lo0 ?_; intro A7 c7 w1 p1 p2 p3; have P7 := Lib.hid (ownI_0 p1); have G7 := Lib.hid p2; have CB1 := Lib.hid ((CB.out.kept p2 CNE.out).alloc (.cells #[.slice none 0 0, .slice A7 rs.length c7] 27)); have x0 := CB1.out.cell 0 rfl; clear p1 p2 p3)
  have sz1 := G7.out.size
  have BO7 := BO.new 27 w1 (.slice none 0 0) (.slice A7 rs.length c7)
  have b7 := bel_alloc w1 (.cells #[.slice none 0 0, .slice A7 rs.length c7] 27)
  have P8 := Lib.hid (show PS (w1.alloc (.cells #[.slice none 0 0, .slice A7 rs.length c7] 27)) (w.heap.size + 2) w1.heap.size none 0 0 [] [] A7 rs.length c7 ws from
    ⟨BO7, ⟨World.ownsRow_nil _ _ _ _, rfl, by simp, .nil⟩, P7.out.below b7, by simp⟩)
  have R8 := Lib.hid ((RB.out.off G7.out (fun x hx => by simp [Value.ownBlock] at hx; omega)).below b7)
  have B8 := Lib.hid (bel_trans (BB.out.grown G7.out (by omega) (fun x hx => by simp [Value.ownBlock] at hx; omega)) b7)
  have H1 := Lib.hid (fun (W : World) (hW : Below w.heap.size w W) => h0.below hW)
  obtain ⟨gP, hgP⟩ : ∃ z, w1.heap.size = z := ⟨_, rfl⟩
  have gP2 : w.heap.size + 3 ≤ gP := by omega
  rw [hgP] at P8 ⊢
  clear hgP sz1
  clear BO7 b7 P7 G7 RB BB CB OB H
  go_loopw [14] (fun t wr => ∃ (k : Nat) (A1 : Option Addr) (c1 : Nat) (vs : List Value), k ≤ rs.length ∧ t = .int .i64 k ∧ PS wr (w.heap.size + 2) gP A1 k c1 vs ((rs.take k).map zr) A7 rs.length c7 ws ∧ BO 27 wr (w.heap.size + 1) (.slice none 0 0) (.slice none 0 0) ∧ Below w.heap.size w wr) (fun t _ => rs.length - (intOf t).toNat)
  case atStart => exact ⟨0, none, 0, [], Nat.zero_le _, rfl, P8.out, R8.out, B8.out⟩
  case round =>
    obtain ⟨k, A1, c1, vs, hk, rfl, hP, hR, hB⟩ := hrel
    have P9 := Lib.hid hP
    have R9 := Lib.hid hR
    have B9 := Lib.hid hB
    have z9 := hB.size
    have gl9 := hP.b.lt
    clear hP hR hB P8 R8 B8
    by_cases hlk : k < rs.length
    · have d0 := decide_eq_true (show (k : Int) < (rs.length : Int) by omega)
      have k0 : (0 : Int) ≤ (k : Int) := by omega
      have k1 : (k : Int) < (rs.length : Int) := by omega
      obtain ⟨b, off, A', m, c', zs, rfl, hbb, cR0, iR, hz⟩ := h0.rows.at hlk
      obtain ⟨r, hr, rfl⟩ := rows_at hz.out
      have lr := OK.out.len (List.mem_of_getElem? hr)
      have e1 := iR.1
      rw [zr_len] at e1
      obtain rfl : n = m := by omega
      have cR := (B9.out.cell (p := ⟨b, off + k, none⟩) hbb).trans cR0
      have TK := Lib.hid (show (rs.take (k + 1)).map zr = (rs.take k).map zr ++ [zr r] from by rw [take_snoc' hr, List.map_append]; rfl)
      have IR := Lib.hid (iR.below B9.out)
      have q0 := P9.out.b.cells.1
      clear e1 hz hr lr
      go_wp2_with fail
      refine wp_region_noPanic ?_
      refine wp_region_R (inFirst (fun W => W.cell? ⟨gP, 0, none⟩ = some (.slice A1 k c1)) 8) (by kernel_rfl) ?_
      have SS := Lib.hid (fun (W : World) (hW : Below wr.heap.size wr W) => (show W.cell? ⟨gP, 0, none⟩ = some (.slice A1 k c1) from (P9.out.b.below hW).cells.1))
      have hS := SS.out wr.drew ⟨rfl, rfl, rfl, Nat.le_refl _, fun _ _ => rfl⟩
      refine anyR_take (i := 0) (.pointer (some ⟨gP, 0, none⟩)) rfl (by kernel_rfl) (by kernel_rfl) (by kernel_rfl) (by kernel_rfl) (fun _ _ _ h => h) (by assumption) ⟨by rfl, ?_⟩ ?_
      · intro W hW
        go_simp
      try simp only [Act.put, List.setIfInBounds_toArray, List.set_cons_zero, List.set_cons_succ, List.getElem_toArray, List.getElem_cons_zero, List.getElem_cons_succ]
      refine anyR_take (i := 1) (.slice A1 k c1) rfl (by kernel_rfl) (by kernel_rfl) (by kernel_rfl) (by kernel_rfl) (fun _ _ _ h => h) (by assumption) ⟨by rfl, ?_⟩ ?_
      · intro W hW
        go_simp
      try simp only [Act.put, List.setIfInBounds_toArray, List.set_cons_zero, List.set_cons_succ, List.getElem_toArray, List.getElem_cons_zero, List.getElem_cons_succ]
      refine anyR_take (i := 3) (.slice A' n c') rfl (by kernel_rfl) (by kernel_rfl) (by kernel_rfl) (by kernel_rfl) (fun _ _ _ h => h) (by assumption) ⟨by rfl, ?_⟩ ?_
      · intro W hW
        go_simp
      try simp only [Act.put, List.setIfInBounds_toArray, List.set_cons_zero, List.set_cons_succ, List.getElem_toArray, List.getElem_cons_zero, List.getElem_cons_succ]
      refine anyR_one (i := 2) (by kernel_rfl) rfl ?_
      intro K hK
      go_simp
      have ua := bel_trans (show Below wr.heap.size wr wr.drew from ⟨rfl, rfl, rfl, Nat.le_refl _, fun _ _ => rfl⟩) (bel_alloc wr.drew (.cells #[] 2))
      have hT := SS.out _ ua
      refine hK.out _ _ (fun _ => hT) ?_
      clear hK K
      try simp only [Act.put, List.setIfInBounds_toArray, List.set_cons_zero, List.set_cons_succ, List.getElem_toArray, List.getElem_cons_zero, List.getElem_cons_succ]
      clear hS hT
      have O0 := Lib.hid (ownI_lit wr.drew)
      have za : (wr.drew.alloc (.cells #[] 2)).heap.size = wr.drew.heap.size + 1 := by simp
      have hb4 : wr.drew.heap.size ≤ (wr.drew.alloc (.cells #[] 2)).heap.size := by omega
      refine anyR_one (i := 4) (by kernel_rfl) rfl ?_
      intro K hK
      refine step_app_ints _ (by rfl) _ _ (by rfl) wr.drew.heap.size (some ⟨wr.drew.heap.size, 0, none⟩) 0 0 [] (by rfl) O0.out A' n c' (zr r) (by rfl) (IR.out.below ua) (by omega) (by omega) (by omega) hb4 ?_
      intro gq cq wb p1 p2 p3
      have ub := ua.grown p2 (Nat.le_trans (Nat.le_refl _) ua.size) (fun x hx => (O0.out.block x hx).1)
      have hT := SS.out _ ub
      have PR := Lib.hid (ownI_0 p1)
      have zb := p2.size
      rw [Nat.zero_add]
      refine hK.out _ _ (fun _ => hT) ?_
      clear hK K
      try simp only [Act.put, List.setIfInBounds_toArray, List.set_cons_zero, List.set_cons_succ, List.getElem_toArray, List.getElem_cons_zero, List.getElem_cons_succ]
      clear hT p1 p2 p3
      refine anyR_one (i := 5) (by kernel_rfl) rfl ?_
      intro K hK
      go_simp
      have bc := bel_alloc wb (.cells #[.slice (some ⟨gq, 0, none⟩) n cq] 25)
      have uc := bel_trans ub bc
      have hT := SS.out _ uc
      refine hK.out _ _ (fun _ => hT) ?_
      clear hK K
      try simp only [Act.put, List.setIfInBounds_toArray, List.set_cons_zero, List.set_cons_succ, List.getElem_toArray, List.getElem_cons_zero, List.getElem_cons_succ]
      clear hT
      have PC := Lib.hid (P9.out.below uc)
      have RC := Lib.hid (PR.out.below bc)
      have HCN := Lib.hid (show (wb.alloc (.cells #[.slice (some ⟨gq, 0, none⟩) n cq] 25)).cell? ⟨wb.heap.size, 0, none⟩ = some (.slice (some ⟨gq, 0, none⟩) n cq) from (Cs.new wb [.slice (some ⟨gq, 0, none⟩) n cq] 25).cell 0 rfl)
      have AP := Lib.hid (apart_new (base := 0) (vs := vs) (fun v hv g' hg' => (P9.out.m.blocks v hv g' hg').2) RC.out)
      have AW := Lib.hid (show Apart (.slice (some ⟨gq, 0, none⟩) n cq) (.slice A7 rs.length c7) from (apart_new (base := 0) (vs := [.slice A7 rs.length c7]) (fun v hv g' hg' => by simp at hv; subst hv; exact (P9.out.o.block g' hg').2) RC.out _ (by simp)).symm)
      have RM := Lib.hid (RC.out.mono (b2 := w.heap.size + 2) (show w.heap.size + 2 ≤ wr.heap.size by omega))
      have loC : w.heap.size + 2 ≤ (wb.alloc (.cells #[.slice (some ⟨gq, 0, none⟩) n cq] 25)).heap.size := by have := uc.size; omega
      have UC := Lib.hid uc
      clear ua ub bc uc
      refine anyR_one (i := 6) (by kernel_rfl) rfl ?_
      intro K hK
      refine step_app_row _ (by rfl) _ _ (by rfl) (w.heap.size + 2) A1 k c1 vs ((rs.take k).map zr) (by rfl) PC.out.m (some ⟨gq, 0, none⟩) n cq (zr r) RM.out AP.out wb.heap.size (by rfl) HCN.out (by omega) loC ?_
      intro g8 c8 w8 p1 p2 p3
      obtain ⟨BX, PX⟩ := PC.out.app0 p1 p2 AW.out
      have G8 := Lib.hid p2
      have MB := Lib.hid PC.out.m.block
      have PX' := Lib.hid PX
      have cx := BX.cells.1
      have fx := BX.free 0
      refine hK.out _ _ (fun _ => cx) ?_
      clear hK K
      try simp only [Act.put, List.setIfInBounds_toArray, List.set_cons_zero, List.set_cons_succ, List.getElem_toArray, List.getElem_cons_zero, List.getElem_cons_succ]
      have hS := cx
      clear p1 p2 p3 BX PX
      refine anyR_take (i := 7) (.pointer (some ⟨gP, 0, none⟩)) rfl (by kernel_rfl) (by kernel_rfl) (by kernel_rfl) (by kernel_rfl) (fun _ _ _ h => h) (by assumption) ⟨by rfl, ?_⟩ ?_
      · intro W hW
        go_simp
      try simp only [Act.put, List.setIfInBounds_toArray, List.set_cons_zero, List.set_cons_succ, List.getElem_toArray, List.getElem_cons_zero, List.getElem_cons_succ]
      refine anyR_one (i := 8) (by kernel_rfl) rfl ?_
      intro K hK
      go_simp
      refine hK.out _ _ (fun h => absurd h (by decide)) ?_
      clear hK K
      try simp only [Act.put, List.setIfInBounds_toArray, List.set_cons_zero, List.set_cons_succ, List.getElem_toArray, List.getElem_cons_zero, List.getElem_cons_succ]
      refine anyR_done (by kernel_rfl) ?_ _
      refine NoPanic.normal ?_
      clear hS cx fx
      have st := grown_set w8 gP 0 (.slice (some ⟨g8, 0, none⟩) (k + 1) c8)
      have RE := Lib.hid (((R9.out.below UC.out).off G8.out (fun x hx => by have := (MB.out x hx).1; omega)).off st (fun x hx => by injection hx with hx; omega))
      have BE := Lib.hid (((bel_trans B9.out UC.out).grown G8.out (by have := B9.out.size; omega) (fun x hx => by have := (MB.out x hx).1; omega)).grown st (by have := B9.out.size; have := G8.out.size; omega) (fun x hx => by injection hx with hx; omega))
      clear st
      go_wp2_with fail
      go_roundw
      case rel => exact ⟨k + 1, _, c8, _, by omega, by go_num, by rw [TK.out]; exact PX'.out, RE.out, BE.out⟩
      case measure => simp [intOf]; omega
    · obtain rfl : rs.length = k := by omega
      have d0 := decide_eq_false (show ¬ (rs.length : Int) < (rs.length : Int) by omega)
      have MF := Lib.hid (show OwnM wr (w.heap.size + 2) A1 rs.length c1 vs (rs.map zr) from by have := P9.out.m; rwa [List.take_of_length_le (Nat.le_refl _)] at this)
      obtain ⟨g1, rfl, _, _⟩ := MF.out.form (by omega)
      have q0 := P9.out.b.cells.1
      have q1 := P9.out.b.cells.2
      have r0 := R9.out.cells.1
      have r1 := R9.out.cells.2
      have f0 := R9.out.free 0
      have f1 := R9.out.free 1
      obtain ⟨s1, s2⟩ := R9.out.set0 (.slice (some ⟨g1, 0, none⟩) rs.length c1)
      obtain ⟨s3, s4⟩ := s1.set1 (.slice A7 rs.length c7)
      have PE := Lib.hid ((P9.out.src s2 (by omega) (by omega)).src s4 (by omega) (by omega))
      have ME := Lib.hid (show OwnM ((wr.setCell ⟨w.heap.size + 1, 0, none⟩ (.slice (some ⟨g1, 0, none⟩) rs.length c1)).setCell ⟨w.heap.size + 1, 1, none⟩ (.slice A7 rs.length c7)) w.heap.size (some ⟨g1, 0, none⟩) rs.length c1 vs (rs.map zr) from by
        have := PE.out.m.mono (b2 := w.heap.size) (by omega)
        rwa [List.take_of_length_le (Nat.le_refl _)] at this)
      have BE := Lib.hid ((B9.out.setCell (p := ⟨w.heap.size + 1, 0, none⟩) (show w.heap.size ≤ w.heap.size + 1 by omega) (.slice (some ⟨g1, 0, none⟩) rs.length c1)).setCell (p := ⟨w.heap.size + 1, 1, none⟩) (show w.heap.size ≤ w.heap.size + 1 by omega) (.slice A7 rs.length c7))
      have RE0 := Lib.hid s3.cells.1
      have RE1 := Lib.hid s3.cells.2
      clear s1 s2 s3 s4
      go_wp2_with fail
      obtain ⟨w9, hw9⟩ : ∃ z, (wr.setCell ⟨w.heap.size + 1, 0, none⟩ (.slice (some ⟨g1, 0, none⟩) rs.length c1)).setCell ⟨w.heap.size + 1, 1, none⟩ (.slice A7 rs.length c7) = z := ⟨_, rfl⟩
      rw [hw9] at PE ME BE RE0 RE1 ⊢
      have re0 := RE0.out
      have re1 := RE1.out
      exact bodyPost_ret (v := .agg #[.slice (some ⟨g1, 0, none⟩) rs.length c1, .slice A7 rs.length c7]) (by simp [results, Try.results31, go_sem, re0, re1]) rfl ⟨g1, c1, vs, A7, c7, rfl, ME.out, PE.out.o.mono (by omega), PE.out.ap, BE.out⟩
end Go.Proofs.Ytikcbconfinibaa
