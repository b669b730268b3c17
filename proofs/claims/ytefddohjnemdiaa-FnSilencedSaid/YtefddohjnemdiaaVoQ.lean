/- The laws' voices; voices that are copied; a member that falls silent. -/
import Derived.Test.YtefddohjnemdiaaVoR
import Derived.Test.YtefddohjnemdiaaAsm0
namespace Go.Proofs.Ytefddohjnemdiaa
set_option linter.unusedVariables false
set_option linter.unusedSimpArgs false
set_option maxRecDepth 100000
open Go.RowKit Go.Deep
theorem step_app_run {P : Program} {ops : Array Oper} {o : Oper} {a : Act} {K : Act → World → Prop} {Q : Exit → Act → World → Prop} {E : Prop} {w : World} (hgd : o.guard = none) (s x : Operand) (t : TypeId)
    (ho : o.op = .call { callee := .builtin .append, args := #[s, x], argTypes := #[t, t] }) {vs vx v : Value} {w' : World} (hs : a.eval s = vs) (hx : a.eval x = vx)
    (hrun : (Builtin.append_ #[t, t] o.type #[vs, vx]).run P w = .ok v w') (h : K (a.put o.dst v) w') : if Region.wanted o (yielded ops a.tmps) = true then Oper.wp P o a w K Q else E := by
  have hw : Region.wanted o (yielded ops a.tmps) = true := by simp [Region.wanted, hgd]
  rw [if_pos hw]
  unfold Oper.wp execOp
  simp only [ho, resolve, invoke, builtin, Sem.run_bind, Sem.run_pure, Result.andThen_ok, List.map_toArray, List.map_cons, List.map_nil, hs, hx, hrun]
  exact h
theorem drawCount_any (g : Nat) (An : Option Addr) (nn cn : Nat) (bs : List Int) (k : Nat) (hk : k ≤ 1000) (w : World) (h : Src w g An nn cn bs k) :
    Calls Try.prog 19 #[.pointer (some ⟨g, 0, none⟩)] w fun e w' => ∃ n k' : Nat, e = .returned (.int .i64 n) ∧ 1 ≤ n ∧ n ≤ 12 ∧ k' ≤ k + 4 ∧ Src w' g An nn cn bs k' ∧ w.grownBy w' (some g) := by
  have gl := h.lt
  go_enter Try.func19, Try.ntmps19
  go_wp2_with fail
  refine (one_any 12 g An nn cn bs k _ h (by omega) (by omega) (by omega)).mono ?_
  rintro e w1 ⟨r, k1, rfl, k10, k11, hs1, hg1⟩
  have sz1 := hg1.size
  cases r
  · go_wp2_with fail
    refine (pick_any 6 g An nn cn bs k1 _ hs1 (by omega) (by omega) (by omega)).mono ?_
    rintro e w2 ⟨q, k2, rfl, hq, k20, k21, hs2, hg2⟩
    obtain ⟨q0, q1⟩ := hq.lt (by omega)
    obtain ⟨q, rfl⟩ := Int.eq_ofNat_of_zero_le q0
    have G2 := Lib.hid (grown_trans hg1 hg2)
    have S2 := Lib.hid hs2
    have ew : IntKind.i64.wrap (2 + (q : Int)) = ((q + 2 : Nat) : Int) := by rw [IntWalk.i64_in _ (by omega)]; omega
    clear hs1 hg1 hs2 hg2 hq h
    go_wp2_with fail
    go_ret
    exact ⟨q + 2, k2, by first | rfl | (congr 2; omega), by omega, by omega, by omega, S2.out, G2.out⟩
  · have bl := bel_alloc w1 (.cells #[.int .i64 1, .int .i64 12] 2)
    have IL : Ints .i64 (w1.alloc (.cells #[.int .i64 1, .int .i64 12] 2)) (some ⟨w1.heap.size, 0, none⟩) 2 2 [1, 12] := by
      have := World.ownsRow_lit (base := w1.heap.size) (e := 2) (size := 1) w1 #[.int .i64 1, .int .i64 12] 2 (Nat.le_refl _) (by unfold maxLen; omega) rfl
      exact OwnI.ints (w := w1.alloc (.cells #[.int .i64 1, .int .i64 12] 2)) (base := w1.heap.size) (zs := [1, 12]) ⟨by simpa [vals] using this, by decide⟩
    have S1 := hs1.kept bl
    have HG := Lib.hid hg1
    have HI := Lib.hid IL
    have HS := Lib.hid S1
    have g1 : w1.grownBy (w1.alloc (.cells #[.int .i64 1, .int .i64 12] 2)) (some g) := World.grownBy_alloc _ _ _
    have HG1 := Lib.hid g1
    clear hs1 S1 IL hg1 g1 bl h
    go_wp2_with fail
    refine (among_any (some ⟨w1.heap.size, 0, none⟩) 2 2 [1, 12] (fun z => 1 ≤ z ∧ z ≤ 12) g An nn cn bs k1 _ HS.out (by omega) HI.out (by omega) (by intro a ha; injection ha with ha; subst ha; show w1.heap.size ≠ g; omega) (by intro z hz; simp at hz; omega)).mono ?_
    rintro e w2 ⟨q, k2, rfl, hq, k20, k21, hs2, hg2⟩
    obtain ⟨q, rfl⟩ := Int.eq_ofNat_of_zero_le (show (0 : Int) ≤ q by omega)
    have G2 := Lib.hid (grown_trans (grown_trans HG.out HG1.out) hg2)
    have S2 := Lib.hid hs2
    clear hs2 hg2
    go_wp2_with fail
    go_ret
    exact ⟨q, k2, rfl, by omega, by omega, by omega, S2.out, G2.out⟩
theorem b10Voices_any (A : Option Addr) (n c : Nat) (bs : List Int) (w : World) (h : Ints .u8 w A n c bs) :
    Calls Try.prog 7 #[.slice A n c] w fun e w' => ∃ (V : List Vo) (B : Option Addr) (d : Nat), e = .returned (.slice B V.length d) ∧ VOk V ∧ VoW w' w.heap.size B V.length d V ∧ Below w.heap.size w w' := by
  go_enter Try.func7, Try.ntmps7
  go_wp2_with fail
  refine (l00From_any A n c bs _ h).mono ?_
  rintro e w1 ⟨g, rfl, hg, hs, hb⟩
  have sz1 := hb.size
  have B1 := Lib.hid hb
  clear hb
  go_wp2_with fail
  refine (drawCount_any g A n c bs 0 (by omega) w1 hs).mono ?_
  rintro e w2 ⟨m, k2, rfl, m1, m12, k2b, hs2, hg2⟩
  have sz2 := hg2.size
  have B2 := Lib.hid (B1.out.grown hg2 B1.out.size (fun r hr => by injection hr with hr; omega))
  clear hs
  go_wp2_with fail
  refine (l02DrawOk_any m m1 m12 g A n c bs k2 (by omega) w2 hs2).mono ?_
  rintro e w3 ⟨V, B, d, rfl, hT, hV, hg3⟩
  have B3 := Lib.hid (B2.out.grown hg3 B2.out.size (fun r hr => by injection hr with hr; omega))
  have HV := Lib.hid (hV.mono B2.out.size)
  have hl := hV.len
  subst hl
  have OK := Lib.hid (hT.ok m1 m12)
  clear hT hV hg3 hs2 hg2
  go_wp2_with fail
  go_ret
  exact ⟨V, B, d, rfl, OK.out, HV.out, B3.out⟩
set_option maxHeartbeats 1000000 in
theorem cloneVoices_ok (V : List Vo) (ok : VOk V) (A : Option Addr) (n c : Nat) (w : World) (hV : VoV w A n c V) :
    Calls Try.prog 21 #[.slice A n c] w fun e w' => ∃ O oc, e = .returned (.slice O n oc) ∧ VoW w' w.heap.size O n oc V ∧ Below w.heap.size w w' := by
  have HV := Lib.hid hV
  have hl : V.length = n := hV.1
  have n12 := ok.n12
  have OK := Lib.hid ok
  have V0 := Lib.hid (voW_lit w)
  have B0 := Lib.hid (bel_alloc w (.cells #[] 29))
  obtain ⟨i0, hi0, hz0, hz1, hz2⟩ := info_parts info_voice
  clear hV ok
  go_enter Try.func21, Try.ntmps21
  go_wp2_with fail
  go_loopw [3, 9] (fun s t wr => ∃ (i : Nat) (O : Option Addr) (oc : Nat), i ≤ n ∧ s = .slice O i oc ∧ t = .int .i64 i ∧ VoW wr w.heap.size O i oc (V.take i) ∧ Below w.heap.size w wr) (fun _ t _ => n - (intOf t).toNat)
  case atStart => exact ⟨0, _, 0, Nat.zero_le _, rfl, rfl, V0.out, B0.out⟩
  case round =>
    obtain ⟨i, O, oc, hi, rfl, rfl, ho, hb⟩ := hrel
    have HO := Lib.hid ho
    have HB := Lib.hid hb
    have szr := hb.size
    clear ho hb V0 B0
    by_cases hlt : i < n
    · have d0 := decide_eq_true (show (i : Int) < (n : Int) by omega)
      have j0 : (0 : Int) ≤ (i : Int) := by omega
      have j1 : (i : Int) < (n : Int) := by omega
      obtain ⟨b, off, T, td, rfl, hbw, hc0w, hc1w, tiw⟩ := HV.out.at hlt
      have hc0 := (HB.out.cell (p := ⟨b, off + i * 2, none⟩) hbw).trans hc0w
      have hc1 := (HB.out.cell (p := ⟨b, off + i * 2 + 1, none⟩) hbw).trans hc1w
      obtain ⟨v, hv⟩ : ∃ v, V[i]? = some v := ⟨_, List.getElem?_eq_getElem (by omega)⟩
      rw [spk_at hv] at hc0
      rw [trs_at hv] at hc1 tiw
      have TS := Lib.hid (take_snoc' hv)
      have l4 := OK.out.l4 i
      rw [trs_at hv] at l4
      have bo := BO.new 29 wr (.bool v.sp) (.slice T v.tr.length td)
      have bv := bel_alloc wr (.cells #[.bool v.sp, .slice T v.tr.length td] 29)
      have B1 := Lib.hid (bel_trans HB.out bv)
      have O1 := Lib.hid (HO.out.below bv)
      have TI := Lib.hid (tiw.below B1.out)
      have OB := Lib.hid HO.out.block
      have R1 := Lib.hid bo
      clear hc0w hc1w tiw hv bo bv
      go_wp2_with fail
      obtain ⟨wb, hwb⟩ : ∃ x, wr.alloc (.cells #[.bool v.sp, .slice T v.tr.length td] 29) = x := ⟨_, rfl⟩
      obtain ⟨gv, hgv⟩ : ∃ x, wr.heap.size = x := ⟨_, rfl⟩
      rw [hwb] at B1 O1 TI R1
      rw [hgv] at R1 OB szr
      try rw [hwb]
      try rw [hgv]
      have hgb : gv < wb.heap.size := R1.out.lt
      clear hwb hgv
      go_wp2_with fail
      refine wp_region_noPanic ?_
      refine wp_region_R (inFirst (fun W => W.cell? ⟨gv, 0, none⟩ = some (.bool v.sp) ∧ W.cell? ⟨gv, 1, none⟩ = some (.slice T v.tr.length td)) 11) (by kernel_rfl) ?_
      have RD := Lib.hid (R1.out.below (w' := wb.drew) ⟨rfl, rfl, rfl, Nat.le_refl _, fun _ _ => rfl⟩)
      have hS := RD.out.cells
      refine anyR_take (i := 0) (.slice O i oc) rfl (by kernel_rfl) (by kernel_rfl) (by kernel_rfl) (by kernel_rfl) (fun _ _ _ h => h) (by assumption) ⟨by rfl, ?_⟩ ?_
      · intro W hW
        go_simp
      try simp only [Act.put, List.setIfInBounds_toArray, List.set_cons_zero, List.set_cons_succ, List.getElem_toArray, List.getElem_cons_zero, List.getElem_cons_succ]
      refine anyR_take (i := 1) (.pointer (some ⟨gv, 0, none⟩)) rfl (by kernel_rfl) (by kernel_rfl) (by kernel_rfl) (by kernel_rfl) (fun _ _ _ h => h) (by assumption) ⟨by rfl, ?_⟩ ?_
      · intro W hW
        go_simp
      try simp only [Act.put, List.setIfInBounds_toArray, List.set_cons_zero, List.set_cons_succ, List.getElem_toArray, List.getElem_cons_zero, List.getElem_cons_succ]
      refine anyR_take (i := 2) (.bool v.sp) rfl (by kernel_rfl) (by kernel_rfl) (by kernel_rfl) (by kernel_rfl) (fun _ _ _ h => h) (by assumption) ⟨by rfl, ?_⟩ ?_
      · intro W hW
        go_simp
      try simp only [Act.put, List.setIfInBounds_toArray, List.set_cons_zero, List.set_cons_succ, List.getElem_toArray, List.getElem_cons_zero, List.getElem_cons_succ]
      refine anyR_take (i := 4) (.pointer (some ⟨gv, 1, none⟩)) rfl (by kernel_rfl) (by kernel_rfl) (by kernel_rfl) (by kernel_rfl) (fun _ _ _ h => h) (by assumption) ⟨by rfl, ?_⟩ ?_
      · intro W hW
        go_simp
      try simp only [Act.put, List.setIfInBounds_toArray, List.set_cons_zero, List.set_cons_succ, List.getElem_toArray, List.getElem_cons_zero, List.getElem_cons_succ]
      refine anyR_take (i := 5) (.slice T v.tr.length td) rfl (by kernel_rfl) (by kernel_rfl) (by kernel_rfl) (by kernel_rfl) (fun _ _ _ h => h) (by assumption) ⟨by rfl, ?_⟩ ?_
      · intro W hW
        go_simp
      try simp only [Act.put, List.setIfInBounds_toArray, List.set_cons_zero, List.set_cons_succ, List.getElem_toArray, List.getElem_cons_zero, List.getElem_cons_succ]
      have bD : Below (wb.alloc (.cells #[] 2)).heap.size (wb.alloc (.cells #[] 2)) ((wb.alloc (.cells #[] 2)).drew) := ⟨rfl, rfl, rfl, Nat.le_refl _, fun _ _ => rfl⟩
      have bA := bel_trans (bel_alloc wb (.cells #[] 2)) bD
      have RA := Lib.hid (R1.out.below bA)
      have TA := Lib.hid (TI.out.below bA)
      have OA := Lib.hid (O1.out.below bA)
      have IA := Lib.hid ((ownI_lit wb).below bD)
      have sA : ((wb.alloc (.cells #[] 2)).drew).heap.size = wb.heap.size + 1 := (by simp : (wb.alloc (.cells #[] 2)).heap.size = wb.heap.size + 1)
      have BA := Lib.hid bA
      have hT := RA.out.cells
      clear bA bD RD
      refine anyR_one (i := 3) (by kernel_rfl) rfl ?_
      intro K hK
      go_simp
      refine hK.out _ _ (fun _ => hT) ?_
      clear hS
      have hS := hT
      clear hT
      clear hK K
      try simp only [Act.put, List.setIfInBounds_toArray, List.set_cons_zero, List.set_cons_succ, List.getElem_toArray, List.getElem_cons_zero, List.getElem_cons_succ]
      obtain ⟨w5, hw5⟩ : ∃ x, (wb.alloc (.cells #[] 2)).drew = x := ⟨_, rfl⟩
      rw [hw5] at RA TA OA IA sA BA hS
      rw [hw5]
      clear hw5
      obtain ⟨A6, c6, w6, hrun, i6, g6, n6⟩ := run_app_ints w5 27 wb.heap.size (some ⟨wb.heap.size, 0, none⟩) 0 0 [] IA.out T v.tr.length td td (zr v.tr) TA.out (by omega) (by omega) (by omega)
      rw [Nat.zero_add] at hrun i6 n6
      have s6 := g6.size
      have B6 := Lib.hid (BA.out.grown g6 BA.out.size (fun x hx => (IA.out.block x hx).1))
      have R6 := Lib.hid (R1.out.below B6.out)
      have O6 := Lib.hid (O1.out.below B6.out)
      have I6 := Lib.hid i6
      have RUN := Lib.hid hrun
      have hT := R6.out.cells
      clear hrun i6 g6 n6 IA TA RA OA
      refine anyR_one (i := 6) (by kernel_rfl) rfl ?_
      intro K hK
      refine step_app_run rfl _ _ _ rfl rfl rfl RUN.out ?_
      refine hK.out _ _ (fun _ => hT) ?_
      clear hS
      have hS := hT
      clear hT
      clear hK K
      try simp only [Act.put, List.setIfInBounds_toArray, List.set_cons_zero, List.set_cons_succ, List.getElem_toArray, List.getElem_cons_zero, List.getElem_cons_succ]
      refine anyR_take (i := 7) (.agg #[.bool v.sp, .slice A6 v.tr.length c6]) rfl (by kernel_rfl) (by kernel_rfl) (by kernel_rfl) (by kernel_rfl) (fun _ _ _ h => h) (by assumption) ⟨by rfl, ?_⟩ ?_
      · intro W hW
        go_simp
      try simp only [Act.put, List.setIfInBounds_toArray, List.set_cons_zero, List.set_cons_succ, List.getElem_toArray, List.getElem_cons_zero, List.getElem_cons_succ]
      have b8 := bel_alloc w6 (.cells #[.bool v.sp, .slice A6 v.tr.length c6] 29)
      have B8 := Lib.hid (bel_trans B6.out b8)
      have R8 := Lib.hid (R6.out.below b8)
      have O8 := Lib.hid (O6.out.below b8)
      have I8 := Lib.hid (I6.out.below b8)
      have hT := R8.out.cells
      have s8 : (w6.alloc (.cells #[.bool v.sp, .slice A6 v.tr.length c6] 29)).heap.size = w6.heap.size + 1 := by simp
      have C8 := Lib.hid (Cs.new w6 [.bool v.sp, .slice A6 v.tr.length c6] 29)
      clear b8
      refine anyR_one (i := 8) (by kernel_rfl) rfl ?_
      intro K hK
      go_simp
      refine hK.out _ _ (fun _ => hT) ?_
      clear hS
      have hS := hT
      clear hT
      clear hK K
      try simp only [Act.put, List.setIfInBounds_toArray, List.set_cons_zero, List.set_cons_succ, List.getElem_toArray, List.getElem_cons_zero, List.getElem_cons_succ]
      obtain ⟨w8, hw8⟩ : ∃ x, w6.alloc (.cells #[.bool v.sp, .slice A6 v.tr.length c6] 29) = x := ⟨_, rfl⟩
      rw [hw8] at B8 R8 O8 I8 s8 C8 hS
      rw [hw8]
      clear hw8
      obtain ⟨rs, rO, rV⟩ := O8.out
      have REC : Recs 2 w8 (some ⟨w6.heap.size, 0, none⟩) 1 1 [[.bool v.sp, .slice A6 v.tr.length c6]] := by
        refine ⟨rfl, Nat.le_refl _, by unfold maxLen; omega, fun _ => ⟨w6.heap.size, 0, rfl, by omega, fun j q r u hr hu => ?_⟩⟩
        obtain rfl : j = 0 := by have := (List.getElem?_eq_some_iff.1 hr).1; simp at this; omega
        simp at hr
        subst hr
        rw [Nat.zero_mul, Nat.zero_add]
        exact C8.out.cell q hu
      obtain ⟨A9, c9, w9, hrun, r9, g9⟩ := run_app_recs (P := Try.prog) w8 24 24 29 w.heap.size i0 _ 2 32 Try.underlying24 hi0 hz0 hz1 hz2 rfl (by omega) O i oc rs rO _ 1 1 [[.bool v.sp, .slice A6 v.tr.length c6]] REC (by intro r hr; simp at hr; subst hr; rfl) (by intro r hr u hu; simp at hr; subst hr; simp at hu; rcases hu with rfl | rfl <;> rfl) (by unfold maxLen; omega) (by omega) (by omega)
      have V9 := Lib.hid (show VoW w9 w.heap.size A9 (i + 1) c9 (V.take (i + 1)) from by
        rw [TS.out]
        exact ⟨_, r9, (rV.kept g9 (fun T l d zs ho => own_ne ho.1 rO.1 (by decide))).snoc ((I8.out.mono (by omega)).kept g9 (own_ne I8.out.1 rO.1 (by decide)))⟩)
      have R9 := Lib.hid (R8.out.off g9 (fun x hx => by have := (OB.out x hx).2; omega))
      have B9 := Lib.hid ((bel_trans B1.out B8.out).grown g9 (bel_trans B1.out B8.out).size (fun x hx => (OB.out x hx).1))
      have RUN9 := Lib.hid hrun
      have hT := R9.out.cells
      clear hrun r9 g9 rO rV REC C8 RUN
      refine anyR_one (i := 9) (by kernel_rfl) rfl ?_
      intro K hK
      refine step_app_run rfl _ _ _ rfl rfl rfl RUN9.out ?_
      refine hK.out _ _ (fun _ => hT) ?_
      clear hS
      have hS := hT
      clear hT RUN9
      clear hK K
      try simp only [Act.put, List.setIfInBounds_toArray, List.set_cons_zero, List.set_cons_succ, List.getElem_toArray, List.getElem_cons_zero, List.getElem_cons_succ]
      refine anyR_take (i := 10) (.slice A9 (i + 1) c9) rfl (by kernel_rfl) (by kernel_rfl) (by kernel_rfl) (by kernel_rfl) (fun _ _ _ h => h) (by assumption) ⟨by rfl, ?_⟩ ?_
      · intro W hW
        go_simp
      try simp only [Act.put, List.setIfInBounds_toArray, List.set_cons_zero, List.set_cons_succ, List.getElem_toArray, List.getElem_cons_zero, List.getElem_cons_succ]
      refine anyR_done (by kernel_rfl) ?_ _
      refine NoPanic.normal ?_
      clear hS
      go_wp2_with fail
      go_roundw
      case rel => exact ⟨i + 1, A9, c9, by omega, rfl, by go_num, V9.out, B9.out⟩
      case measure => simp [intOf]; omega
    · obtain rfl : n = i := by omega
      have d0 := decide_eq_false (show ¬ (n : Int) < (n : Int) by omega)
      go_wp2_with fail
      go_ret
      exact ⟨O, oc, rfl, by have := HO.out; rwa [List.take_of_length_le (by omega)] at this, HB.out⟩
theorem VoW.sil {w : World} {base g n c : Nat} {V : List Vo} (h : VoW w base (some ⟨g, 0, none⟩) n c V) {m : Nat} (hm : m < n) :
    VoW ((w.setCell ⟨g, m * 2 + 0, none⟩ (.bool false)).setCell ⟨g, m * 2 + 1, none⟩ (.slice none 0 0)) base (some ⟨g, 0, none⟩) n c (sil V m) ∧ w.grownBy ((w.setCell ⟨g, m * 2 + 0, none⟩ (.bool false)).setCell ⟨g, m * 2 + 1, none⟩ (.slice none 0 0)) (some g) := by
  have hl := h.len
  obtain ⟨rs, h1, h2, h3⟩ := h
  have hrl : rs.length = n := h1.2.1
  obtain ⟨r, hr⟩ : ∃ r, rs[m]? = some r := ⟨_, List.getElem?_eq_getElem (by omega)⟩
  have hr2 := h1.2.2 r (List.mem_of_getElem? hr)
  obtain ⟨p1, p2⟩ := h1.put (i := 0) (.bool false) hr (by omega)
  obtain ⟨q1, q2⟩ := p1.put (j := m) (i := 1) (r := r.set 0 (.bool false)) (.slice none 0 0) (by rw [List.getElem?_set_self (by omega)]) (by omega)
  have hg := grown_trans p2 q2
  have er : ((r.set 0 (.bool false)).set 1 (.slice none 0 0)) = [.bool false, .slice none 0 0] := by
    match r, hr2 with
    | [a, b], _ => rfl
  rw [er, List.set_set] at q1
  refine ⟨⟨_, q1, by rw [List.length_set, sil_len, h2], fun j v hv => ?_⟩, hg⟩
  unfold Go.Proofs.Ytefddohjnemdiaa.sil at hv
  by_cases e : j = m
  · subst e
    rw [List.getElem?_set_self (by omega)] at hv
    injection hv with hv
    subst hv
    exact ⟨none, 0, by rw [List.getElem?_set_self (by omega)]; rfl, ownI_nil _ _⟩
  · rw [List.getElem?_set_ne (by omega)] at hv
    obtain ⟨T, d, k1, k2⟩ := h3 j v hv
    exact ⟨T, d, by rw [List.getElem?_set_ne (by omega)]; exact k1, k2.kept hg (own_ne k2.1 h1.1 (by decide))⟩
theorem silence_ok (V : List Vo) (ok : VOk V) (m : Nat) (hm : m < V.length) (A : Option Addr) (n c : Nat) (w : World) (hV : VoV w A n c V) :
    Calls Try.prog 9 #[.slice A n c, .int .i64 m] w fun e w' => ∃ O oc, e = .returned (.tuple #[.slice O n oc, .bool true]) ∧ VoW w' w.heap.size O n oc (sil V m) ∧ Below w.heap.size w w' := by
  have HV := Lib.hid hV
  have hl : V.length = n := hV.1
  have n12 := ok.n12
  have OK := Lib.hid ok
  have IM := Lib.hid (isMember_ok V ok m hm A n c w hV)
  clear hV ok
  go_enter Try.func9, Try.ntmps9
  go_wp2_with fail
  refine IM.out.mono ?_
  rintro e w1 ⟨rfl, b1⟩
  have B1 := Lib.hid b1
  clear b1 IM
  go_wp2_with fail
  refine (cloneVoices_ok V OK.out A n c w1 (HV.out.below B1.out)).mono ?_
  rintro e w2 ⟨O, oc, rfl, hO, b2⟩
  have hb := hO.block
  have hO2 := hO
  obtain ⟨rs, h1, _⟩ := hO2
  obtain ⟨g, rfl, g1, g2⟩ := h1.form (by omega)
  have rl := h1.2.1
  obtain ⟨r, hr⟩ : ∃ r, rs[m]? = some r := ⟨_, List.getElem?_eq_getElem (by omega)⟩
  have hr2 := h1.2.2 r (List.mem_of_getElem? hr)
  obtain ⟨x, y, rfl⟩ : ∃ x y, r = [x, y] := by
    match r, hr2 with
    | [a, b], _ => exact ⟨a, b, rfl⟩
  have c0 := h1.cell (j := m) (i := 0) hr rfl
  have c1 := h1.cell (j := m) (i := 1) hr rfl
  have f0 := h1.free (m * 2)
  have f1 := h1.free (m * 2 + 1)
  have B2 := Lib.hid (bel_trans B1.out b2)
  obtain ⟨v1, v2⟩ := hO.sil (m := m) (by omega)
  have SV := Lib.hid v1
  have BS := Lib.hid (B2.out.grown v2 B2.out.size (fun x hx => by injection hx with hx; have := B1.out.size; omega))
  have m0 : (0 : Int) ≤ (m : Int) := by omega
  have m1 : (m : Int) < (n : Int) := by omega
  have s1 := B1.out.size
  rw [Nat.add_zero] at c0
  clear hO hb h1 hr hr2 b2 v1 v2 rl B1
  go_wp2_with fail
  go_ret2
  exact ⟨_, oc, rfl, (SV.out.mono s1), BS.out⟩
end Go.Proofs.Ytefddohjnemdiaa
