/- The law FnStands, walked. -/
import Derived.Test.YteejfjgofpolkaaStMath
import Derived.Test.YteejfjgofpolkaaDrawF
namespace Go.Proofs.Yteejfjgofpolkaa
set_option linter.unusedVariables false
set_option linter.unusedSimpArgs false
set_option maxRecDepth 100000
open Go.RowKit Go.Deep
set_option maxHeartbeats 8000000 in
theorem fnStands_walk (w : World) (A : Option Addr) (n c : Nat) (zs : List Int) (h : Ints .u8 w A n c zs) (B : Option Addr) (m d : Nat) (ys : List Int) (k : Ints .u8 w B m d ys) :
    Calls Try.prog 9 #[.slice A n c, .slice B m d] w fun e w' => e = .returned (.bool true) ∧ Below w.heap.size w w' := by
  have hn := h.short
  have hm := k.short
  by_cases h1 : (decide ((48 : Int) < n) || decide ((48 : Int) < m)) = true
  · have H1 := Lib.hid h1
    clear h1
    go_enter Try.func9, Try.ntmps9
    go_wp2_with fail
    refine (r8Long_any A n c B m d _ hn hm).mono ?_
    rintro e w1 ⟨rfl, rfl⟩
    rw [H1.out]
    go_wp2_with fail
    go_ret
    exact ⟨rfl, Below.refl _ _⟩
  · have H1 : Hid ((decide ((48 : Int) < n) || decide ((48 : Int) < m)) = false) := by show _ = _; simpa using h1
    clear h1
    go_enter Try.func9, Try.ntmps9
    go_wp2_with fail
    refine (r8Long_any A n c B m d _ hn hm).mono ?_
    rintro e w1 ⟨rfl, rfl⟩
    rw [H1.out]
    go_wp2_with fail
    refine (R8Frame_any A n c zs _ h).mono ?_
    rintro e w1 ⟨N, es, Q, dq, rfl, ok, hR, b1⟩
    have n10 := ok.n10
    have OK := Lib.hid ok
    have ba := bel_alloc w1 (.cells #[.int .i64 N, .slice Q es.length dq] 26)
    have C1 := Lib.hid (Cs.new w1 [.int .i64 N, .slice Q es.length dq] 26)
    have y0 := C1.out.cell 0 rfl
    have y1 := C1.out.cell 1 rfl
    have RR := Lib.hid (hR.below ba)
    have B1 := Lib.hid (bel_trans b1 ba)
    obtain ⟨gF, hgF⟩ : ∃ r, w1.heap.size = r := ⟨_, rfl⟩
    rw [hgF] at C1 y0 y1
    clear ok hR b1 ba
    go_wp2_with fail
    refine (grdSet_ok N es OK.out Q es.length dq _ RR.out).mono ?_
    rintro e w2 ⟨AG, cG, rfl, oG, b2⟩
    have C2 := Lib.hid (C1.out.below b2)
    have z0 := C2.out.cell 0 rfl
    have z1 := C2.out.cell 1 rfl
    have R2 := Lib.hid (RR.out.below b2)
    have B2 := Lib.hid (bel_trans B1.out b2)
    have OG := Lib.hid oG
    clear oG b2 y0 y1
    go_wp2_with fail
    refine (compSI_ok N es OK.out (frB_of OK.out) Q es.length dq _ R2.out).mono ?_
    rintro e w3 ⟨AS, cS, vs, rfl, oS, b3⟩
    have C3 := Lib.hid (C2.out.below b3)
    have R3 := Lib.hid (R2.out.below b3)
    have B3 := Lib.hid (bel_trans B2.out b3)
    have G3 := Lib.hid (OG.out.below b3)
    have S3 := Lib.hid oS
    have LM := Lib.hid (fun (m : Nat) (hm : m ∈ allM N (compB N es)) => allM_lt n10 hm)
    have gc := grd_comp OK.out
    have gl := grd_lt (n := N) (es := es)
    have AN := Lib.hid (show ((srtL (bitsL (allM N (compB N es)))).any fun z => decide (z = bitsTo (grdM N es) 10)) = true from by
      rw [set_any LM.out (grdM_lt OK.out)]
      exact decide_eq_true (allM_mem.2 ⟨gl, gc⟩))
    have AT := Lib.hid (fun i z (hz : (srtL (bitsL (allM N (compB N es))))[i]? = some z) => (show ∃ m, m < 2 ^ N ∧ compB N es m = true ∧ z = bitsTo m 10 from by
      obtain ⟨m, h1, h2⟩ := set_at hz
      exact ⟨m, (allM_mem.1 h1).1, (allM_mem.1 h1).2, h2⟩))
    have LS := Lib.hid (fun i y z => @set_less N n10 (compB N es) i y z)
    have EV := Lib.hid (fun (x : Nat) (hx : x < N) => (show ((srtL (bitsL (allM N (compB N es)))).all fun z => z.any (· == (x : Int))) = (bitsTo (grdM N es) 10).any (· == (x : Int)) from by
      rw [bitsTo_has (by omega), Bool.eq_iff_iff, List.all_eq_true]
      constructor
      · intro h
        have := h (bitsTo (grdM N es) 10) ((srtL_perm _).mem_iff.2 (List.mem_map.2 ⟨_, allM_mem.2 ⟨gl, gc⟩, rfl⟩))
        rwa [bitsTo_has (by omega)] at this
      · intro h z hz
        obtain ⟨i, hi⟩ := List.mem_iff_getElem?.1 hz
        obtain ⟨m, h1, h2, rfl⟩ := AT.out i z hi
        rw [bitsTo_has (by omega)]
        exact grd_least OK.out h1 h2 x h))
    have SL : (srtL (bitsL (allM N (compB N es)))).length ≤ 1024 := by rw [srtL_len, bitsL_len]; exact allM_len n10 _
    have SP : 0 < (srtL (bitsL (allM N (compB N es)))).length := by rw [srtL_len, bitsL_len]; exact List.length_pos_of_mem (allM_mem.2 ⟨gl, gc⟩)
    obtain ⟨S, hSS⟩ : ∃ s, srtL (bitsL (allM N (compB N es))) = s := ⟨_, rfl⟩
    obtain ⟨G, hG⟩ : ∃ g, bitsTo (grdM N es) 10 = g := ⟨_, rfl⟩
    rw [hSS] at S3 AN AT LS EV SL SP ⊢
    rw [hG] at G3 AN EV ⊢
    have s0 : (((S.length : Nat) : Int) == 0) = false := by show decide _ = false; exact decide_eq_false (by omega)
    have AM := Lib.hid (r8Among_any AS S.length cS S AG G.length cG G w3 S3.out.rws G3.out.ints)
    rw [AN.out] at AM
    clear oS b3 z0 z1 hSS hG gc gl OG AN
    go_wp2_with fail
    refine AM.out.mono ?_
    rintro e w4 ⟨rfl, b4⟩
    have C4 := Lib.hid (C3.out.below b4)
    have R4 := Lib.hid (R3.out.below b4)
    have B4 := Lib.hid (bel_trans B3.out b4)
    have G4 := Lib.hid (G3.out.below b4)
    have S4 := Lib.hid (S3.out.below b4)
    clear b4 AM C3 R3 B3 G3 S3 C2 R2 B2
    go_wp2_with fail
    obtain ⟨gS, rfl, _, _⟩ := S4.out.form SP
    go_loopw [10] (fun t wr => ∃ i : Nat, i ≤ S.length ∧ t = .int .i64 i ∧ Below w4.heap.size w4 wr) (fun t _ => S.length - (intOf t).toNat)
    case atStart => exact ⟨0, Nat.zero_le _, rfl, Below.refl _ _⟩
    case round =>
      obtain ⟨i, hi, rfl, hb⟩ := hrel
      have HB := Lib.hid hb
      have C5 := C4.out.below hb
      have R5 := R4.out.below hb
      have S5 := S4.out.below hb
      clear hb
      by_cases hlt : i < S.length
      · have d0 := decide_eq_true (show (i : Int) < (S.length : Int) by omega)
        have i0 : (0 : Int) ≤ (i : Int) := by omega
        have i1 : (i : Int) < (S.length : Int) := by omega
        obtain ⟨g', Ai, ci, z, e1, _, gl5, hz, cz, oz, _⟩ := S5.at hlt
        simp only [Option.some.injEq, Addr.mk.injEq, and_true] at e1
        subst e1
        obtain ⟨g', Aj, cj, zj, e1, _, _, hzj, cj', ozj, _⟩ := S5.at (j := i - 1) (by omega)
        simp only [Option.some.injEq, Addr.mk.injEq, and_true] at e1
        subst e1
        obtain ⟨m, hm, hc, rfl⟩ := AT.out i z hz.out
        have IZ := oz.ints
        have IZJ := ozj.ints
        have LES := Lib.hid (fun (h0 : 0 < i) => (show decide (cmpL zj (bitsTo m 10) < 0) = true from decide_eq_true (LS.out (i - 1) zj _ hzj.out (by rw [show i - 1 + 1 = i by omega]; exact hz.out))))
        have SS := Lib.hid (fun (W : World) (hW : Below wr.heap.size wr W) => (show Below wr.heap.size wr W ∧ W.cell? ⟨gF, 0, none⟩ = some (.int .i64 N) ∧ W.cell? ⟨gF, 1, none⟩ = some (.slice Q es.length dq) ∧ W.cell? ⟨gS, i, none⟩ = some (.slice Ai (bitsTo m 10).length ci) from ⟨hW, (C5.below hW).cell 0 rfl, (C5.below hW).cell 1 rfl, (hW.cell (p := ⟨gS, i, none⟩) gl5).trans cz⟩))
        have DB := Lib.hid (fun W (hW : Below wr.heap.size wr W) => defBy_ok N es OK.out m hm Q es.length dq Ai ci W (R5.below hW) (IZ.below hW))
        simp only [comp_dfd hc] at DB
        have KC := Lib.hid C5
        have KR := Lib.hid R5
        have KZ := Lib.hid IZ
        have KZJ := Lib.hid IZJ
        have KC1 := Lib.hid cz
        have KC2 := Lib.hid cj'
        have HCM := Lib.hid hc
        clear hz hzj cz oz cj' ozj hc C5 R5 S5 IZ IZJ
        go_wp2_with fail
        refine wp_region_noPanic ?_
        refine wp_region_R (inFirst (fun W => Below wr.heap.size wr W ∧ W.cell? ⟨gF, 0, none⟩ = some (.int .i64 N) ∧ W.cell? ⟨gF, 1, none⟩ = some (.slice Q es.length dq) ∧ W.cell? ⟨gS, i, none⟩ = some (.slice Ai (bitsTo m 10).length ci)) 11) (by kernel_rfl) ?_
        have hS := SS.out wr.drew ⟨rfl, rfl, rfl, Nat.le_refl _, fun _ _ => rfl⟩
        refine anyR_take (i := 0) (.agg #[.int .i64 N, .slice Q es.length dq]) rfl (by kernel_rfl) (by kernel_rfl) (by kernel_rfl) (by kernel_rfl) (fun _ _ _ h => h) (by assumption) ⟨by rfl, ?_⟩ ?_
        · intro W hW
          go_simp
        try simp only [Act.put, List.setIfInBounds_toArray, List.set_cons_zero, List.set_cons_succ, List.getElem_toArray, List.getElem_cons_zero, List.getElem_cons_succ]
        refine anyR_take (i := 1) (.slice (some ⟨gS, 0, none⟩) S.length cS) rfl (by kernel_rfl) (by kernel_rfl) (by kernel_rfl) (by kernel_rfl) (fun _ _ _ h => h) (by assumption) ⟨by rfl, ?_⟩ ?_
        · intro W hW
          go_simp
        try simp only [Act.put, List.setIfInBounds_toArray, List.set_cons_zero, List.set_cons_succ, List.getElem_toArray, List.getElem_cons_zero, List.getElem_cons_succ]
        refine anyR_take (i := 2) (.int .i64 i) rfl (by kernel_rfl) (by kernel_rfl) (by kernel_rfl) (by kernel_rfl) (fun _ _ _ h => h) (by assumption) ⟨by rfl, ?_⟩ ?_
        · intro W hW
          go_simp
        try simp only [Act.put, List.setIfInBounds_toArray, List.set_cons_zero, List.set_cons_succ, List.getElem_toArray, List.getElem_cons_zero, List.getElem_cons_succ]
        refine anyR_take (i := 3) (.pointer (some ⟨gS, i, none⟩)) rfl (by kernel_rfl) (by kernel_rfl) (by kernel_rfl) (by kernel_rfl) (fun _ _ _ h => h) (by assumption) ⟨by rfl, ?_⟩ ?_
        · intro W hW
          go_simp
        try simp only [Act.put, List.setIfInBounds_toArray, List.set_cons_zero, List.set_cons_succ, List.getElem_toArray, List.getElem_cons_zero, List.getElem_cons_succ]
        refine anyR_take (i := 4) (.slice Ai (bitsTo m 10).length ci) rfl (by kernel_rfl) (by kernel_rfl) (by kernel_rfl) (by kernel_rfl) (fun _ _ _ h => h) (by assumption) ⟨by rfl, ?_⟩ ?_
        · intro W hW
          go_simp
        try simp only [Act.put, List.setIfInBounds_toArray, List.set_cons_zero, List.set_cons_succ, List.getElem_toArray, List.getElem_cons_zero, List.getElem_cons_succ]
        refine anyR_one (i := 5) (by kernel_rfl) rfl ?_
        intro K hK
        go_simp
        go_at_call 44
        refine (DB.out _ hS.1).mono ?_
        rintro e w5 ⟨A5, c5, rfl, o5, b5⟩
        have hT := SS.out w5 (bel_trans hS.1 b5)
        have U5 := Lib.hid hT.1
        have O5 := Lib.hid o5
        refine hK.out _ _ (fun _ => hT) ?_
        clear hS b5 o5
        have hS := hT
        clear hT
        clear hK K
        try simp only [Act.put, List.setIfInBounds_toArray, List.set_cons_zero, List.set_cons_succ, List.getElem_toArray, List.getElem_cons_zero, List.getElem_cons_succ]
        refine anyR_take (i := 6) (.tuple #[.slice A5 (bitsTo m 10).length c5, .bool true]) rfl (by kernel_rfl) (by kernel_rfl) (by kernel_rfl) (by kernel_rfl) (fun _ _ _ h => h) (by assumption) ⟨by rfl, ?_⟩ ?_
        · intro W hW
          go_simp
        try simp only [Act.put, List.setIfInBounds_toArray, List.set_cons_zero, List.set_cons_succ, List.getElem_toArray, List.getElem_cons_zero, List.getElem_cons_succ]
        refine anyR_take (i := 7) (.slice A5 (bitsTo m 10).length c5) rfl (by kernel_rfl) (by kernel_rfl) (by kernel_rfl) (by kernel_rfl) (fun _ _ _ h => h) (by assumption) ⟨by rfl, ?_⟩ ?_
        · intro W hW
          go_simp
        try simp only [Act.put, List.setIfInBounds_toArray, List.set_cons_zero, List.set_cons_succ, List.getElem_toArray, List.getElem_cons_zero, List.getElem_cons_succ]
        refine anyR_take (i := 8) (.bool true) rfl (by kernel_rfl) (by kernel_rfl) (by kernel_rfl) (by kernel_rfl) (fun _ _ _ h => h) (by assumption) ⟨by rfl, ?_⟩ ?_
        · intro W hW
          go_simp
        try simp only [Act.put, List.setIfInBounds_toArray, List.set_cons_zero, List.set_cons_succ, List.getElem_toArray, List.getElem_cons_zero, List.getElem_cons_succ]
        refine anyR_take (i := 9) (.slice A5 (bitsTo m 10).length c5) rfl (by kernel_rfl) (by kernel_rfl) (by kernel_rfl) (by kernel_rfl) (fun _ _ _ h => h) (by assumption) ⟨by rfl, ?_⟩ ?_
        · intro W hW
          go_simp
        try simp only [Act.put, List.setIfInBounds_toArray, List.set_cons_zero, List.set_cons_succ, List.getElem_toArray, List.getElem_cons_zero, List.getElem_cons_succ]
        refine anyR_take (i := 10) (.bool true) rfl (by kernel_rfl) (by kernel_rfl) (by kernel_rfl) (by kernel_rfl) (fun _ _ _ h => h) (by assumption) ⟨by rfl, ?_⟩ ?_
        · intro W hW
          go_simp
        try simp only [Act.put, List.setIfInBounds_toArray, List.set_cons_zero, List.set_cons_succ, List.getElem_toArray, List.getElem_cons_zero, List.getElem_cons_succ]
        refine anyR_done (by kernel_rfl) ?_ _
        refine NoPanic.normal ?_
        clear hS SS DB
        have SS := Lib.hid (fun (W : World) (hW : Below w5.heap.size w5 W) => (show Below w5.heap.size w5 W ∧ W.cell? ⟨gF, 0, none⟩ = some (.int .i64 N) ∧ W.cell? ⟨gF, 1, none⟩ = some (.slice Q es.length dq) ∧ W.cell? ⟨gS, i, none⟩ = some (.slice Ai (bitsTo m 10).length ci) ∧ W.cell? ⟨gS, i - 1, none⟩ = some (.slice Aj zj.length cj) from
          have hV := bel_trans U5.out hW
          ⟨hW, (KC.out.below hV).cell 0 rfl, (KC.out.below hV).cell 1 rfl, (hV.cell (p := ⟨gS, i, none⟩) gl5).trans KC1.out, (hV.cell (p := ⟨gS, i - 1, none⟩) gl5).trans KC2.out⟩))
        have IC := Lib.hid (fun W (hW : Below w5.heap.size w5 W) => isConf_ok N es OK.out m hm Q es.length dq Ai ci W (KR.out.below (bel_trans U5.out hW)) (KZ.out.below (bel_trans U5.out hW)))
        simp only [comp_free HCM.out] at IC
        have IA := Lib.hid (fun W (hW : Below w5.heap.size w5 W) => isAdm_ok N es OK.out m hm Q es.length dq Ai ci W (KR.out.below (bel_trans U5.out hW)) (KZ.out.below (bel_trans U5.out hW)))
        simp only [comp_good OK.out hm HCM.out] at IA
        have SA := Lib.hid (fun W (hW : Below w5.heap.size w5 W) => r8Same_any A5 _ c5 _ Ai _ ci _ W (O5.out.ints.below hW) (KZ.out.below (bel_trans U5.out hW)))
        simp only [decide_true] at SA
        have LE := Lib.hid (fun W (hW : Below w5.heap.size w5 W) => r8Less_any Aj _ cj _ Ai _ ci _ W (KZJ.out.below (bel_trans U5.out hW)) (KZ.out.below (bel_trans U5.out hW)))
        by_cases hp : 0 < i
        · have d1 := decide_eq_true (show (0 : Int) < (i : Int) by omega)
          simp only [LES.out hp] at LE
          have ew : IntKind.i64.wrap ((i : Int) - 1) = ((i - 1 : Nat) : Int) := by rw [show ((i - 1 : Nat) : Int) = (i : Int) - 1 by omega]; exact IntWalk.i64_in _ (by omega)
          have k0 : (0 : Int) ≤ ((i - 1 : Nat) : Int) := by omega
          have k1 : ((i - 1 : Nat) : Int) < (S.length : Int) := by omega
          go_wp2_with fail
          refine wp_region_noPanic ?_
          refine wp_region_R (inFirst (fun W => Below w5.heap.size w5 W ∧ W.cell? ⟨gF, 0, none⟩ = some (.int .i64 N) ∧ W.cell? ⟨gF, 1, none⟩ = some (.slice Q es.length dq) ∧ W.cell? ⟨gS, i, none⟩ = some (.slice Ai (bitsTo m 10).length ci) ∧ W.cell? ⟨gS, i - 1, none⟩ = some (.slice Aj zj.length cj)) 46) (by kernel_rfl) ?_
          have hS := SS.out w5.drew ⟨rfl, rfl, rfl, Nat.le_refl _, fun _ _ => rfl⟩
          refine anyR_take (i := 0) (.bool true) rfl (by kernel_rfl) (by kernel_rfl) (by kernel_rfl) (by kernel_rfl) (fun _ _ _ h => h) (by assumption) ⟨by rfl, ?_⟩ ?_
          · intro W hW
            go_simp
          try simp only [Act.put, List.setIfInBounds_toArray, List.set_cons_zero, List.set_cons_succ, List.getElem_toArray, List.getElem_cons_zero, List.getElem_cons_succ]
          refine anyR_take (i := 1) (.bool false) rfl (by kernel_rfl) (by kernel_rfl) (by kernel_rfl) (by kernel_rfl) (fun _ _ _ h => h) (by assumption) ⟨by rfl, ?_⟩ ?_
          · intro W hW
            go_simp
          try simp only [Act.put, List.setIfInBounds_toArray, List.set_cons_zero, List.set_cons_succ, List.getElem_toArray, List.getElem_cons_zero, List.getElem_cons_succ]
          refine anyR_take (i := 2) (.bool false) rfl (by kernel_rfl) (by kernel_rfl) (by kernel_rfl) (by kernel_rfl) (fun _ _ _ h => h) (by assumption) ⟨by rfl, ?_⟩ ?_
          · intro W hW
            go_simp
          try simp only [Act.put, List.setIfInBounds_toArray, List.set_cons_zero, List.set_cons_succ, List.getElem_toArray, List.getElem_cons_zero, List.getElem_cons_succ]
          refine anyR_take (i := 3) (.agg #[.int .i64 N, .slice Q es.length dq]) rfl (by kernel_rfl) (by kernel_rfl) (by kernel_rfl) (by kernel_rfl) (fun _ _ _ h => h) (by assumption) ⟨by rfl, ?_⟩ ?_
          · intro W hW
            go_simp
          try simp only [Act.put, List.setIfInBounds_toArray, List.set_cons_zero, List.set_cons_succ, List.getElem_toArray, List.getElem_cons_zero, List.getElem_cons_succ]
          refine anyR_take (i := 4) (.slice (some ⟨gS, 0, none⟩) S.length cS) rfl (by kernel_rfl) (by kernel_rfl) (by kernel_rfl) (by kernel_rfl) (fun _ _ _ h => h) (by assumption) ⟨by rfl, ?_⟩ ?_
          · intro W hW
            go_simp
          try simp only [Act.put, List.setIfInBounds_toArray, List.set_cons_zero, List.set_cons_succ, List.getElem_toArray, List.getElem_cons_zero, List.getElem_cons_succ]
          refine anyR_take (i := 5) (.int .i64 i) rfl (by kernel_rfl) (by kernel_rfl) (by kernel_rfl) (by kernel_rfl) (fun _ _ _ h => h) (by assumption) ⟨by rfl, ?_⟩ ?_
          · intro W hW
            go_simp
          try simp only [Act.put, List.setIfInBounds_toArray, List.set_cons_zero, List.set_cons_succ, List.getElem_toArray, List.getElem_cons_zero, List.getElem_cons_succ]
          refine anyR_take (i := 6) (.pointer (some ⟨gS, i, none⟩)) rfl (by kernel_rfl) (by kernel_rfl) (by kernel_rfl) (by kernel_rfl) (fun _ _ _ h => h) (by assumption) ⟨by rfl, ?_⟩ ?_
          · intro W hW
            go_simp
          try simp only [Act.put, List.setIfInBounds_toArray, List.set_cons_zero, List.set_cons_succ, List.getElem_toArray, List.getElem_cons_zero, List.getElem_cons_succ]
          refine anyR_take (i := 7) (.slice Ai (bitsTo m 10).length ci) rfl (by kernel_rfl) (by kernel_rfl) (by kernel_rfl) (by kernel_rfl) (fun _ _ _ h => h) (by assumption) ⟨by rfl, ?_⟩ ?_
          · intro W hW
            go_simp
          try simp only [Act.put, List.setIfInBounds_toArray, List.set_cons_zero, List.set_cons_succ, List.getElem_toArray, List.getElem_cons_zero, List.getElem_cons_succ]
          refine anyR_one (i := 8) (by kernel_rfl) rfl ?_
          intro K hK
          go_simp
          go_at_call 45
          refine (IC.out _ hS.1).mono ?_
          rintro e w9 ⟨rfl, b9⟩
          have hT := SS.out w9 (bel_trans hS.1 b9)
          refine hK.out _ _ (fun _ => hT) ?_
          clear hS b9
          have hS := hT
          clear hT
          clear hK K
          try simp only [Act.put, List.setIfInBounds_toArray, List.set_cons_zero, List.set_cons_succ, List.getElem_toArray, List.getElem_cons_zero, List.getElem_cons_succ]
          refine anyR_take (i := 9) (.bool false) rfl (by kernel_rfl) (by kernel_rfl) (by kernel_rfl) (by kernel_rfl) (fun _ _ _ h => h) (by assumption) ⟨by rfl, ?_⟩ ?_
          · intro W hW
            go_simp
          try simp only [Act.put, List.setIfInBounds_toArray, List.set_cons_zero, List.set_cons_succ, List.getElem_toArray, List.getElem_cons_zero, List.getElem_cons_succ]
          refine anyR_take (i := 10) (.bool false) rfl (by kernel_rfl) (by kernel_rfl) (by kernel_rfl) (by kernel_rfl) (fun _ _ _ h => h) (by assumption) ⟨by rfl, ?_⟩ ?_
          · intro W hW
            go_simp
          try simp only [Act.put, List.setIfInBounds_toArray, List.set_cons_zero, List.set_cons_succ, List.getElem_toArray, List.getElem_cons_zero, List.getElem_cons_succ]
          refine anyR_take (i := 11) (.bool false) rfl (by kernel_rfl) (by kernel_rfl) (by kernel_rfl) (by kernel_rfl) (fun _ _ _ h => h) (by assumption) ⟨by rfl, ?_⟩ ?_
          · intro W hW
            go_simp
          try simp only [Act.put, List.setIfInBounds_toArray, List.set_cons_zero, List.set_cons_succ, List.getElem_toArray, List.getElem_cons_zero, List.getElem_cons_succ]
          refine anyR_take (i := 12) (.agg #[.int .i64 N, .slice Q es.length dq]) rfl (by kernel_rfl) (by kernel_rfl) (by kernel_rfl) (by kernel_rfl) (fun _ _ _ h => h) (by assumption) ⟨by rfl, ?_⟩ ?_
          · intro W hW
            go_simp
          try simp only [Act.put, List.setIfInBounds_toArray, List.set_cons_zero, List.set_cons_succ, List.getElem_toArray, List.getElem_cons_zero, List.getElem_cons_succ]
          refine anyR_take (i := 13) (.slice (some ⟨gS, 0, none⟩) S.length cS) rfl (by kernel_rfl) (by kernel_rfl) (by kernel_rfl) (by kernel_rfl) (fun _ _ _ h => h) (by assumption) ⟨by rfl, ?_⟩ ?_
          · intro W hW
            go_simp
          try simp only [Act.put, List.setIfInBounds_toArray, List.set_cons_zero, List.set_cons_succ, List.getElem_toArray, List.getElem_cons_zero, List.getElem_cons_succ]
          refine anyR_take (i := 14) (.int .i64 i) rfl (by kernel_rfl) (by kernel_rfl) (by kernel_rfl) (by kernel_rfl) (fun _ _ _ h => h) (by assumption) ⟨by rfl, ?_⟩ ?_
          · intro W hW
            go_simp
          try simp only [Act.put, List.setIfInBounds_toArray, List.set_cons_zero, List.set_cons_succ, List.getElem_toArray, List.getElem_cons_zero, List.getElem_cons_succ]
          refine anyR_take (i := 15) (.pointer (some ⟨gS, i, none⟩)) rfl (by kernel_rfl) (by kernel_rfl) (by kernel_rfl) (by kernel_rfl) (fun _ _ _ h => h) (by assumption) ⟨by rfl, ?_⟩ ?_
          · intro W hW
            go_simp
          try simp only [Act.put, List.setIfInBounds_toArray, List.set_cons_zero, List.set_cons_succ, List.getElem_toArray, List.getElem_cons_zero, List.getElem_cons_succ]
          refine anyR_take (i := 16) (.slice Ai (bitsTo m 10).length ci) rfl (by kernel_rfl) (by kernel_rfl) (by kernel_rfl) (by kernel_rfl) (fun _ _ _ h => h) (by assumption) ⟨by rfl, ?_⟩ ?_
          · intro W hW
            go_simp
          try simp only [Act.put, List.setIfInBounds_toArray, List.set_cons_zero, List.set_cons_succ, List.getElem_toArray, List.getElem_cons_zero, List.getElem_cons_succ]
          refine anyR_one (i := 17) (by kernel_rfl) rfl ?_
          intro K hK
          go_simp
          go_at_call 46
          refine (IA.out _ hS.1).mono ?_
          rintro e w9 ⟨rfl, b9⟩
          have hT := SS.out w9 (bel_trans hS.1 b9)
          refine hK.out _ _ (fun _ => hT) ?_
          clear hS b9
          have hS := hT
          clear hT
          clear hK K
          try simp only [Act.put, List.setIfInBounds_toArray, List.set_cons_zero, List.set_cons_succ, List.getElem_toArray, List.getElem_cons_zero, List.getElem_cons_succ]
          refine anyR_take (i := 18) (.bool false) rfl (by kernel_rfl) (by kernel_rfl) (by kernel_rfl) (by kernel_rfl) (fun _ _ _ h => h) (by assumption) ⟨by rfl, ?_⟩ ?_
          · intro W hW
            go_simp
          try simp only [Act.put, List.setIfInBounds_toArray, List.set_cons_zero, List.set_cons_succ, List.getElem_toArray, List.getElem_cons_zero, List.getElem_cons_succ]
          refine anyR_take (i := 19) (.bool false) rfl (by kernel_rfl) (by kernel_rfl) (by kernel_rfl) (by kernel_rfl) (fun _ _ _ h => h) (by assumption) ⟨by rfl, ?_⟩ ?_
          · intro W hW
            go_simp
          try simp only [Act.put, List.setIfInBounds_toArray, List.set_cons_zero, List.set_cons_succ, List.getElem_toArray, List.getElem_cons_zero, List.getElem_cons_succ]
          refine anyR_take (i := 20) (.bool false) rfl (by kernel_rfl) (by kernel_rfl) (by kernel_rfl) (by kernel_rfl) (fun _ _ _ h => h) (by assumption) ⟨by rfl, ?_⟩ ?_
          · intro W hW
            go_simp
          try simp only [Act.put, List.setIfInBounds_toArray, List.set_cons_zero, List.set_cons_succ, List.getElem_toArray, List.getElem_cons_zero, List.getElem_cons_succ]
          refine anyR_take (i := 21) (.slice A5 (bitsTo m 10).length c5) rfl (by kernel_rfl) (by kernel_rfl) (by kernel_rfl) (by kernel_rfl) (fun _ _ _ h => h) (by assumption) ⟨by rfl, ?_⟩ ?_
          · intro W hW
            go_simp
          try simp only [Act.put, List.setIfInBounds_toArray, List.set_cons_zero, List.set_cons_succ, List.getElem_toArray, List.getElem_cons_zero, List.getElem_cons_succ]
          refine anyR_take (i := 22) (.slice (some ⟨gS, 0, none⟩) S.length cS) rfl (by kernel_rfl) (by kernel_rfl) (by kernel_rfl) (by kernel_rfl) (fun _ _ _ h => h) (by assumption) ⟨by rfl, ?_⟩ ?_
          · intro W hW
            go_simp
          try simp only [Act.put, List.setIfInBounds_toArray, List.set_cons_zero, List.set_cons_succ, List.getElem_toArray, List.getElem_cons_zero, List.getElem_cons_succ]
          refine anyR_take (i := 23) (.int .i64 i) rfl (by kernel_rfl) (by kernel_rfl) (by kernel_rfl) (by kernel_rfl) (fun _ _ _ h => h) (by assumption) ⟨by rfl, ?_⟩ ?_
          · intro W hW
            go_simp
          try simp only [Act.put, List.setIfInBounds_toArray, List.set_cons_zero, List.set_cons_succ, List.getElem_toArray, List.getElem_cons_zero, List.getElem_cons_succ]
          refine anyR_take (i := 24) (.pointer (some ⟨gS, i, none⟩)) rfl (by kernel_rfl) (by kernel_rfl) (by kernel_rfl) (by kernel_rfl) (fun _ _ _ h => h) (by assumption) ⟨by rfl, ?_⟩ ?_
          · intro W hW
            go_simp
          try simp only [Act.put, List.setIfInBounds_toArray, List.set_cons_zero, List.set_cons_succ, List.getElem_toArray, List.getElem_cons_zero, List.getElem_cons_succ]
          refine anyR_take (i := 25) (.slice Ai (bitsTo m 10).length ci) rfl (by kernel_rfl) (by kernel_rfl) (by kernel_rfl) (by kernel_rfl) (fun _ _ _ h => h) (by assumption) ⟨by rfl, ?_⟩ ?_
          · intro W hW
            go_simp
          try simp only [Act.put, List.setIfInBounds_toArray, List.set_cons_zero, List.set_cons_succ, List.getElem_toArray, List.getElem_cons_zero, List.getElem_cons_succ]
          refine anyR_one (i := 26) (by kernel_rfl) rfl ?_
          intro K hK
          go_simp
          go_at_call 47
          refine (SA.out _ hS.1).mono ?_
          rintro e w9 ⟨rfl, b9⟩
          have hT := SS.out w9 (bel_trans hS.1 b9)
          refine hK.out _ _ (fun _ => hT) ?_
          clear hS b9
          have hS := hT
          clear hT
          clear hK K
          try simp only [Act.put, List.setIfInBounds_toArray, List.set_cons_zero, List.set_cons_succ, List.getElem_toArray, List.getElem_cons_zero, List.getElem_cons_succ]
          refine anyR_take (i := 27) (.bool false) rfl (by kernel_rfl) (by kernel_rfl) (by kernel_rfl) (by kernel_rfl) (fun _ _ _ h => h) (by assumption) ⟨by rfl, ?_⟩ ?_
          · intro W hW
            go_simp
          try simp only [Act.put, List.setIfInBounds_toArray, List.set_cons_zero, List.set_cons_succ, List.getElem_toArray, List.getElem_cons_zero, List.getElem_cons_succ]
          refine anyR_take (i := 28) (.bool false) rfl (by kernel_rfl) (by kernel_rfl) (by kernel_rfl) (by kernel_rfl) (fun _ _ _ h => h) (by assumption) ⟨by rfl, ?_⟩ ?_
          · intro W hW
            go_simp
          try simp only [Act.put, List.setIfInBounds_toArray, List.set_cons_zero, List.set_cons_succ, List.getElem_toArray, List.getElem_cons_zero, List.getElem_cons_succ]
          refine anyR_take (i := 29) (.bool false) rfl (by kernel_rfl) (by kernel_rfl) (by kernel_rfl) (by kernel_rfl) (fun _ _ _ h => h) (by assumption) ⟨by rfl, ?_⟩ ?_
          · intro W hW
            go_simp
          try simp only [Act.put, List.setIfInBounds_toArray, List.set_cons_zero, List.set_cons_succ, List.getElem_toArray, List.getElem_cons_zero, List.getElem_cons_succ]
          refine anyR_take (i := 30) (.int .i64 i) rfl (by kernel_rfl) (by kernel_rfl) (by kernel_rfl) (by kernel_rfl) (fun _ _ _ h => h) (by assumption) ⟨by rfl, ?_⟩ ?_
          · intro W hW
            go_simp
          try simp only [Act.put, List.setIfInBounds_toArray, List.set_cons_zero, List.set_cons_succ, List.getElem_toArray, List.getElem_cons_zero, List.getElem_cons_succ]
          refine anyR_take (i := 31) (.bool true) rfl (by kernel_rfl) (by kernel_rfl) (by kernel_rfl) (by kernel_rfl) (fun _ _ _ h => h) (by assumption) ⟨by rfl, ?_⟩ ?_
          · intro W hW
            go_simp
          try simp only [Act.put, List.setIfInBounds_toArray, List.set_cons_zero, List.set_cons_succ, List.getElem_toArray, List.getElem_cons_zero, List.getElem_cons_succ]
          refine anyR_take (i := 32) (.bool true) rfl (by kernel_rfl) (by kernel_rfl) (by kernel_rfl) (by kernel_rfl) (fun _ _ _ h => h) (by assumption) ⟨by rfl, ?_⟩ ?_
          · intro W hW
            go_simp
          try simp only [Act.put, List.setIfInBounds_toArray, List.set_cons_zero, List.set_cons_succ, List.getElem_toArray, List.getElem_cons_zero, List.getElem_cons_succ]
          refine anyR_take (i := 33) (.slice (some ⟨gS, 0, none⟩) S.length cS) rfl (by kernel_rfl) (by kernel_rfl) (by kernel_rfl) (by kernel_rfl) (fun _ _ _ h => h) (by assumption) ⟨by rfl, ?_⟩ ?_
          · intro W hW
            go_simp
          try simp only [Act.put, List.setIfInBounds_toArray, List.set_cons_zero, List.set_cons_succ, List.getElem_toArray, List.getElem_cons_zero, List.getElem_cons_succ]
          refine anyR_take (i := 34) (.int .i64 i) rfl (by kernel_rfl) (by kernel_rfl) (by kernel_rfl) (by kernel_rfl) (fun _ _ _ h => h) (by assumption) ⟨by rfl, ?_⟩ ?_
          · intro W hW
            go_simp
          try simp only [Act.put, List.setIfInBounds_toArray, List.set_cons_zero, List.set_cons_succ, List.getElem_toArray, List.getElem_cons_zero, List.getElem_cons_succ]
          refine anyR_take (i := 35) (.int .i64 ((i - 1 : Nat) : Int)) rfl (by kernel_rfl) (by kernel_rfl) (by kernel_rfl) (by kernel_rfl) (fun _ _ _ h => h) (by assumption) ⟨by rfl, ?_⟩ ?_
          · intro W hW
            go_simp
          try simp only [Act.put, List.setIfInBounds_toArray, List.set_cons_zero, List.set_cons_succ, List.getElem_toArray, List.getElem_cons_zero, List.getElem_cons_succ]
          refine anyR_take (i := 36) (.pointer (some ⟨gS, (i - 1), none⟩)) rfl (by kernel_rfl) (by kernel_rfl) (by kernel_rfl) (by kernel_rfl) (fun _ _ _ h => h) (by assumption) ⟨by rfl, ?_⟩ ?_
          · intro W hW
            go_simp
          try simp only [Act.put, List.setIfInBounds_toArray, List.set_cons_zero, List.set_cons_succ, List.getElem_toArray, List.getElem_cons_zero, List.getElem_cons_succ]
          refine anyR_take (i := 37) (.slice Aj zj.length cj) rfl (by kernel_rfl) (by kernel_rfl) (by kernel_rfl) (by kernel_rfl) (fun _ _ _ h => h) (by assumption) ⟨by rfl, ?_⟩ ?_
          · intro W hW
            go_simp
          try simp only [Act.put, List.setIfInBounds_toArray, List.set_cons_zero, List.set_cons_succ, List.getElem_toArray, List.getElem_cons_zero, List.getElem_cons_succ]
          refine anyR_take (i := 38) (.slice (some ⟨gS, 0, none⟩) S.length cS) rfl (by kernel_rfl) (by kernel_rfl) (by kernel_rfl) (by kernel_rfl) (fun _ _ _ h => h) (by assumption) ⟨by rfl, ?_⟩ ?_
          · intro W hW
            go_simp
          try simp only [Act.put, List.setIfInBounds_toArray, List.set_cons_zero, List.set_cons_succ, List.getElem_toArray, List.getElem_cons_zero, List.getElem_cons_succ]
          refine anyR_take (i := 39) (.int .i64 i) rfl (by kernel_rfl) (by kernel_rfl) (by kernel_rfl) (by kernel_rfl) (fun _ _ _ h => h) (by assumption) ⟨by rfl, ?_⟩ ?_
          · intro W hW
            go_simp
          try simp only [Act.put, List.setIfInBounds_toArray, List.set_cons_zero, List.set_cons_succ, List.getElem_toArray, List.getElem_cons_zero, List.getElem_cons_succ]
          refine anyR_take (i := 40) (.pointer (some ⟨gS, i, none⟩)) rfl (by kernel_rfl) (by kernel_rfl) (by kernel_rfl) (by kernel_rfl) (fun _ _ _ h => h) (by assumption) ⟨by rfl, ?_⟩ ?_
          · intro W hW
            go_simp
          try simp only [Act.put, List.setIfInBounds_toArray, List.set_cons_zero, List.set_cons_succ, List.getElem_toArray, List.getElem_cons_zero, List.getElem_cons_succ]
          refine anyR_take (i := 41) (.slice Ai (bitsTo m 10).length ci) rfl (by kernel_rfl) (by kernel_rfl) (by kernel_rfl) (by kernel_rfl) (fun _ _ _ h => h) (by assumption) ⟨by rfl, ?_⟩ ?_
          · intro W hW
            go_simp
          try simp only [Act.put, List.setIfInBounds_toArray, List.set_cons_zero, List.set_cons_succ, List.getElem_toArray, List.getElem_cons_zero, List.getElem_cons_succ]
          refine anyR_one (i := 42) (by kernel_rfl) rfl ?_
          intro K hK
          go_simp
          go_at_call 48
          refine (LE.out _ hS.1).mono ?_
          rintro e w9 ⟨rfl, b9⟩
          have hT := SS.out w9 (bel_trans hS.1 b9)
          refine hK.out _ _ (fun _ => hT) ?_
          clear hS b9
          have hS := hT
          clear hT
          clear hK K
          try simp only [Act.put, List.setIfInBounds_toArray, List.set_cons_zero, List.set_cons_succ, List.getElem_toArray, List.getElem_cons_zero, List.getElem_cons_succ]
          refine anyR_take (i := 43) (.bool false) rfl (by kernel_rfl) (by kernel_rfl) (by kernel_rfl) (by kernel_rfl) (fun _ _ _ h => h) (by assumption) ⟨by rfl, ?_⟩ ?_
          · intro W hW
            go_simp
          try simp only [Act.put, List.setIfInBounds_toArray, List.set_cons_zero, List.set_cons_succ, List.getElem_toArray, List.getElem_cons_zero, List.getElem_cons_succ]
          refine anyR_take (i := 44) (.bool false) rfl (by kernel_rfl) (by kernel_rfl) (by kernel_rfl) (by kernel_rfl) (fun _ _ _ h => h) (by assumption) ⟨by rfl, ?_⟩ ?_
          · intro W hW
            go_simp
          try simp only [Act.put, List.setIfInBounds_toArray, List.set_cons_zero, List.set_cons_succ, List.getElem_toArray, List.getElem_cons_zero, List.getElem_cons_succ]
          refine anyR_take (i := 45) (.bool false) rfl (by kernel_rfl) (by kernel_rfl) (by kernel_rfl) (by kernel_rfl) (fun _ _ _ h => h) (by assumption) ⟨by rfl, ?_⟩ ?_
          · intro W hW
            go_simp
          try simp only [Act.put, List.setIfInBounds_toArray, List.set_cons_zero, List.set_cons_succ, List.getElem_toArray, List.getElem_cons_zero, List.getElem_cons_succ]
          refine anyR_done (by kernel_rfl) ?_ _
          refine NoPanic.normal ?_
          have BE := Lib.hid (bel_trans HB.out (bel_trans U5.out hS.1))
          clear hS
          go_wp2_with fail
          go_roundw
          case rel => exact ⟨i + 1, by omega, by go_num, BE.out⟩
          case measure => simp [intOf]; omega
        · have d1 := decide_eq_false (show ¬ (0 : Int) < (i : Int) by omega)
          go_wp2_with fail
          refine wp_region_noPanic ?_
          refine wp_region_R (inFirst (fun W => Below w5.heap.size w5 W ∧ W.cell? ⟨gF, 0, none⟩ = some (.int .i64 N) ∧ W.cell? ⟨gF, 1, none⟩ = some (.slice Q es.length dq) ∧ W.cell? ⟨gS, i, none⟩ = some (.slice Ai (bitsTo m 10).length ci) ∧ W.cell? ⟨gS, i - 1, none⟩ = some (.slice Aj zj.length cj)) 46) (by kernel_rfl) ?_
          have hS := SS.out w5.drew ⟨rfl, rfl, rfl, Nat.le_refl _, fun _ _ => rfl⟩
          refine anyR_take (i := 0) (.bool true) rfl (by kernel_rfl) (by kernel_rfl) (by kernel_rfl) (by kernel_rfl) (fun _ _ _ h => h) (by assumption) ⟨by rfl, ?_⟩ ?_
          · intro W hW
            go_simp
          try simp only [Act.put, List.setIfInBounds_toArray, List.set_cons_zero, List.set_cons_succ, List.getElem_toArray, List.getElem_cons_zero, List.getElem_cons_succ]
          refine anyR_take (i := 1) (.bool false) rfl (by kernel_rfl) (by kernel_rfl) (by kernel_rfl) (by kernel_rfl) (fun _ _ _ h => h) (by assumption) ⟨by rfl, ?_⟩ ?_
          · intro W hW
            go_simp
          try simp only [Act.put, List.setIfInBounds_toArray, List.set_cons_zero, List.set_cons_succ, List.getElem_toArray, List.getElem_cons_zero, List.getElem_cons_succ]
          refine anyR_take (i := 2) (.bool false) rfl (by kernel_rfl) (by kernel_rfl) (by kernel_rfl) (by kernel_rfl) (fun _ _ _ h => h) (by assumption) ⟨by rfl, ?_⟩ ?_
          · intro W hW
            go_simp
          try simp only [Act.put, List.setIfInBounds_toArray, List.set_cons_zero, List.set_cons_succ, List.getElem_toArray, List.getElem_cons_zero, List.getElem_cons_succ]
          refine anyR_take (i := 3) (.agg #[.int .i64 N, .slice Q es.length dq]) rfl (by kernel_rfl) (by kernel_rfl) (by kernel_rfl) (by kernel_rfl) (fun _ _ _ h => h) (by assumption) ⟨by rfl, ?_⟩ ?_
          · intro W hW
            go_simp
          try simp only [Act.put, List.setIfInBounds_toArray, List.set_cons_zero, List.set_cons_succ, List.getElem_toArray, List.getElem_cons_zero, List.getElem_cons_succ]
          refine anyR_take (i := 4) (.slice (some ⟨gS, 0, none⟩) S.length cS) rfl (by kernel_rfl) (by kernel_rfl) (by kernel_rfl) (by kernel_rfl) (fun _ _ _ h => h) (by assumption) ⟨by rfl, ?_⟩ ?_
          · intro W hW
            go_simp
          try simp only [Act.put, List.setIfInBounds_toArray, List.set_cons_zero, List.set_cons_succ, List.getElem_toArray, List.getElem_cons_zero, List.getElem_cons_succ]
          refine anyR_take (i := 5) (.int .i64 i) rfl (by kernel_rfl) (by kernel_rfl) (by kernel_rfl) (by kernel_rfl) (fun _ _ _ h => h) (by assumption) ⟨by rfl, ?_⟩ ?_
          · intro W hW
            go_simp
          try simp only [Act.put, List.setIfInBounds_toArray, List.set_cons_zero, List.set_cons_succ, List.getElem_toArray, List.getElem_cons_zero, List.getElem_cons_succ]
          refine anyR_take (i := 6) (.pointer (some ⟨gS, i, none⟩)) rfl (by kernel_rfl) (by kernel_rfl) (by kernel_rfl) (by kernel_rfl) (fun _ _ _ h => h) (by assumption) ⟨by rfl, ?_⟩ ?_
          · intro W hW
            go_simp
          try simp only [Act.put, List.setIfInBounds_toArray, List.set_cons_zero, List.set_cons_succ, List.getElem_toArray, List.getElem_cons_zero, List.getElem_cons_succ]
          refine anyR_take (i := 7) (.slice Ai (bitsTo m 10).length ci) rfl (by kernel_rfl) (by kernel_rfl) (by kernel_rfl) (by kernel_rfl) (fun _ _ _ h => h) (by assumption) ⟨by rfl, ?_⟩ ?_
          · intro W hW
            go_simp
          try simp only [Act.put, List.setIfInBounds_toArray, List.set_cons_zero, List.set_cons_succ, List.getElem_toArray, List.getElem_cons_zero, List.getElem_cons_succ]
          refine anyR_one (i := 8) (by kernel_rfl) rfl ?_
          intro K hK
          go_simp
          go_at_call 45
          refine (IC.out _ hS.1).mono ?_
          rintro e w9 ⟨rfl, b9⟩
          have hT := SS.out w9 (bel_trans hS.1 b9)
          refine hK.out _ _ (fun _ => hT) ?_
          clear hS b9
          have hS := hT
          clear hT
          clear hK K
          try simp only [Act.put, List.setIfInBounds_toArray, List.set_cons_zero, List.set_cons_succ, List.getElem_toArray, List.getElem_cons_zero, List.getElem_cons_succ]
          refine anyR_take (i := 9) (.bool false) rfl (by kernel_rfl) (by kernel_rfl) (by kernel_rfl) (by kernel_rfl) (fun _ _ _ h => h) (by assumption) ⟨by rfl, ?_⟩ ?_
          · intro W hW
            go_simp
          try simp only [Act.put, List.setIfInBounds_toArray, List.set_cons_zero, List.set_cons_succ, List.getElem_toArray, List.getElem_cons_zero, List.getElem_cons_succ]
          refine anyR_take (i := 10) (.bool false) rfl (by kernel_rfl) (by kernel_rfl) (by kernel_rfl) (by kernel_rfl) (fun _ _ _ h => h) (by assumption) ⟨by rfl, ?_⟩ ?_
          · intro W hW
            go_simp
          try simp only [Act.put, List.setIfInBounds_toArray, List.set_cons_zero, List.set_cons_succ, List.getElem_toArray, List.getElem_cons_zero, List.getElem_cons_succ]
          refine anyR_take (i := 11) (.bool false) rfl (by kernel_rfl) (by kernel_rfl) (by kernel_rfl) (by kernel_rfl) (fun _ _ _ h => h) (by assumption) ⟨by rfl, ?_⟩ ?_
          · intro W hW
            go_simp
          try simp only [Act.put, List.setIfInBounds_toArray, List.set_cons_zero, List.set_cons_succ, List.getElem_toArray, List.getElem_cons_zero, List.getElem_cons_succ]
          refine anyR_take (i := 12) (.agg #[.int .i64 N, .slice Q es.length dq]) rfl (by kernel_rfl) (by kernel_rfl) (by kernel_rfl) (by kernel_rfl) (fun _ _ _ h => h) (by assumption) ⟨by rfl, ?_⟩ ?_
          · intro W hW
            go_simp
          try simp only [Act.put, List.setIfInBounds_toArray, List.set_cons_zero, List.set_cons_succ, List.getElem_toArray, List.getElem_cons_zero, List.getElem_cons_succ]
          refine anyR_take (i := 13) (.slice (some ⟨gS, 0, none⟩) S.length cS) rfl (by kernel_rfl) (by kernel_rfl) (by kernel_rfl) (by kernel_rfl) (fun _ _ _ h => h) (by assumption) ⟨by rfl, ?_⟩ ?_
          · intro W hW
            go_simp
          try simp only [Act.put, List.setIfInBounds_toArray, List.set_cons_zero, List.set_cons_succ, List.getElem_toArray, List.getElem_cons_zero, List.getElem_cons_succ]
          refine anyR_take (i := 14) (.int .i64 i) rfl (by kernel_rfl) (by kernel_rfl) (by kernel_rfl) (by kernel_rfl) (fun _ _ _ h => h) (by assumption) ⟨by rfl, ?_⟩ ?_
          · intro W hW
            go_simp
          try simp only [Act.put, List.setIfInBounds_toArray, List.set_cons_zero, List.set_cons_succ, List.getElem_toArray, List.getElem_cons_zero, List.getElem_cons_succ]
          refine anyR_take (i := 15) (.pointer (some ⟨gS, i, none⟩)) rfl (by kernel_rfl) (by kernel_rfl) (by kernel_rfl) (by kernel_rfl) (fun _ _ _ h => h) (by assumption) ⟨by rfl, ?_⟩ ?_
          · intro W hW
            go_simp
          try simp only [Act.put, List.setIfInBounds_toArray, List.set_cons_zero, List.set_cons_succ, List.getElem_toArray, List.getElem_cons_zero, List.getElem_cons_succ]
          refine anyR_take (i := 16) (.slice Ai (bitsTo m 10).length ci) rfl (by kernel_rfl) (by kernel_rfl) (by kernel_rfl) (by kernel_rfl) (fun _ _ _ h => h) (by assumption) ⟨by rfl, ?_⟩ ?_
          · intro W hW
            go_simp
          try simp only [Act.put, List.setIfInBounds_toArray, List.set_cons_zero, List.set_cons_succ, List.getElem_toArray, List.getElem_cons_zero, List.getElem_cons_succ]
          refine anyR_one (i := 17) (by kernel_rfl) rfl ?_
          intro K hK
          go_simp
          go_at_call 46
          refine (IA.out _ hS.1).mono ?_
          rintro e w9 ⟨rfl, b9⟩
          have hT := SS.out w9 (bel_trans hS.1 b9)
          refine hK.out _ _ (fun _ => hT) ?_
          clear hS b9
          have hS := hT
          clear hT
          clear hK K
          try simp only [Act.put, List.setIfInBounds_toArray, List.set_cons_zero, List.set_cons_succ, List.getElem_toArray, List.getElem_cons_zero, List.getElem_cons_succ]
          refine anyR_take (i := 18) (.bool false) rfl (by kernel_rfl) (by kernel_rfl) (by kernel_rfl) (by kernel_rfl) (fun _ _ _ h => h) (by assumption) ⟨by rfl, ?_⟩ ?_
          · intro W hW
            go_simp
          try simp only [Act.put, List.setIfInBounds_toArray, List.set_cons_zero, List.set_cons_succ, List.getElem_toArray, List.getElem_cons_zero, List.getElem_cons_succ]
          refine anyR_take (i := 19) (.bool false) rfl (by kernel_rfl) (by kernel_rfl) (by kernel_rfl) (by kernel_rfl) (fun _ _ _ h => h) (by assumption) ⟨by rfl, ?_⟩ ?_
          · intro W hW
            go_simp
          try simp only [Act.put, List.setIfInBounds_toArray, List.set_cons_zero, List.set_cons_succ, List.getElem_toArray, List.getElem_cons_zero, List.getElem_cons_succ]
          refine anyR_take (i := 20) (.bool false) rfl (by kernel_rfl) (by kernel_rfl) (by kernel_rfl) (by kernel_rfl) (fun _ _ _ h => h) (by assumption) ⟨by rfl, ?_⟩ ?_
          · intro W hW
            go_simp
          try simp only [Act.put, List.setIfInBounds_toArray, List.set_cons_zero, List.set_cons_succ, List.getElem_toArray, List.getElem_cons_zero, List.getElem_cons_succ]
          refine anyR_take (i := 21) (.slice A5 (bitsTo m 10).length c5) rfl (by kernel_rfl) (by kernel_rfl) (by kernel_rfl) (by kernel_rfl) (fun _ _ _ h => h) (by assumption) ⟨by rfl, ?_⟩ ?_
          · intro W hW
            go_simp
          try simp only [Act.put, List.setIfInBounds_toArray, List.set_cons_zero, List.set_cons_succ, List.getElem_toArray, List.getElem_cons_zero, List.getElem_cons_succ]
          refine anyR_take (i := 22) (.slice (some ⟨gS, 0, none⟩) S.length cS) rfl (by kernel_rfl) (by kernel_rfl) (by kernel_rfl) (by kernel_rfl) (fun _ _ _ h => h) (by assumption) ⟨by rfl, ?_⟩ ?_
          · intro W hW
            go_simp
          try simp only [Act.put, List.setIfInBounds_toArray, List.set_cons_zero, List.set_cons_succ, List.getElem_toArray, List.getElem_cons_zero, List.getElem_cons_succ]
          refine anyR_take (i := 23) (.int .i64 i) rfl (by kernel_rfl) (by kernel_rfl) (by kernel_rfl) (by kernel_rfl) (fun _ _ _ h => h) (by assumption) ⟨by rfl, ?_⟩ ?_
          · intro W hW
            go_simp
          try simp only [Act.put, List.setIfInBounds_toArray, List.set_cons_zero, List.set_cons_succ, List.getElem_toArray, List.getElem_cons_zero, List.getElem_cons_succ]
          refine anyR_take (i := 24) (.pointer (some ⟨gS, i, none⟩)) rfl (by kernel_rfl) (by kernel_rfl) (by kernel_rfl) (by kernel_rfl) (fun _ _ _ h => h) (by assumption) ⟨by rfl, ?_⟩ ?_
          · intro W hW
            go_simp
          try simp only [Act.put, List.setIfInBounds_toArray, List.set_cons_zero, List.set_cons_succ, List.getElem_toArray, List.getElem_cons_zero, List.getElem_cons_succ]
          refine anyR_take (i := 25) (.slice Ai (bitsTo m 10).length ci) rfl (by kernel_rfl) (by kernel_rfl) (by kernel_rfl) (by kernel_rfl) (fun _ _ _ h => h) (by assumption) ⟨by rfl, ?_⟩ ?_
          · intro W hW
            go_simp
          try simp only [Act.put, List.setIfInBounds_toArray, List.set_cons_zero, List.set_cons_succ, List.getElem_toArray, List.getElem_cons_zero, List.getElem_cons_succ]
          refine anyR_one (i := 26) (by kernel_rfl) rfl ?_
          intro K hK
          go_simp
          go_at_call 47
          refine (SA.out _ hS.1).mono ?_
          rintro e w9 ⟨rfl, b9⟩
          have hT := SS.out w9 (bel_trans hS.1 b9)
          refine hK.out _ _ (fun _ => hT) ?_
          clear hS b9
          have hS := hT
          clear hT
          clear hK K
          try simp only [Act.put, List.setIfInBounds_toArray, List.set_cons_zero, List.set_cons_succ, List.getElem_toArray, List.getElem_cons_zero, List.getElem_cons_succ]
          refine anyR_take (i := 27) (.bool false) rfl (by kernel_rfl) (by kernel_rfl) (by kernel_rfl) (by kernel_rfl) (fun _ _ _ h => h) (by assumption) ⟨by rfl, ?_⟩ ?_
          · intro W hW
            go_simp
          try simp only [Act.put, List.setIfInBounds_toArray, List.set_cons_zero, List.set_cons_succ, List.getElem_toArray, List.getElem_cons_zero, List.getElem_cons_succ]
          refine anyR_take (i := 28) (.bool false) rfl (by kernel_rfl) (by kernel_rfl) (by kernel_rfl) (by kernel_rfl) (fun _ _ _ h => h) (by assumption) ⟨by rfl, ?_⟩ ?_
          · intro W hW
            go_simp
          try simp only [Act.put, List.setIfInBounds_toArray, List.set_cons_zero, List.set_cons_succ, List.getElem_toArray, List.getElem_cons_zero, List.getElem_cons_succ]
          refine anyR_take (i := 29) (.bool false) rfl (by kernel_rfl) (by kernel_rfl) (by kernel_rfl) (by kernel_rfl) (fun _ _ _ h => h) (by assumption) ⟨by rfl, ?_⟩ ?_
          · intro W hW
            go_simp
          try simp only [Act.put, List.setIfInBounds_toArray, List.set_cons_zero, List.set_cons_succ, List.getElem_toArray, List.getElem_cons_zero, List.getElem_cons_succ]
          refine anyR_take (i := 30) (.int .i64 i) rfl (by kernel_rfl) (by kernel_rfl) (by kernel_rfl) (by kernel_rfl) (fun _ _ _ h => h) (by assumption) ⟨by rfl, ?_⟩ ?_
          · intro W hW
            go_simp
          try simp only [Act.put, List.setIfInBounds_toArray, List.set_cons_zero, List.set_cons_succ, List.getElem_toArray, List.getElem_cons_zero, List.getElem_cons_succ]
          refine anyR_take (i := 31) (.bool false) rfl (by kernel_rfl) (by kernel_rfl) (by kernel_rfl) (by kernel_rfl) (fun _ _ _ h => h) (by assumption) ⟨by rfl, ?_⟩ ?_
          · intro W hW
            go_simp
          try simp only [Act.put, List.setIfInBounds_toArray, List.set_cons_zero, List.set_cons_succ, List.getElem_toArray, List.getElem_cons_zero, List.getElem_cons_succ]
          refine anyR_take (i := 32) (.bool false) rfl (by kernel_rfl) (by kernel_rfl) (by kernel_rfl) (by kernel_rfl) (fun _ _ _ h => h) (by assumption) ⟨by rfl, ?_⟩ ?_
          · intro W hW
            go_simp
          try simp only [Act.put, List.setIfInBounds_toArray, List.set_cons_zero, List.set_cons_succ, List.getElem_toArray, List.getElem_cons_zero, List.getElem_cons_succ]
          refine anyR_skip (i := 33) rfl (by kernel_rfl) (by kernel_rfl) (by kernel_rfl) (by kernel_rfl) (fun _ _ _ h => h) (by assumption) (by rfl) ?_
          try simp only [Act.put, List.setIfInBounds_toArray, List.set_cons_zero, List.set_cons_succ, List.getElem_toArray, List.getElem_cons_zero, List.getElem_cons_succ]
          refine anyR_skip (i := 34) rfl (by kernel_rfl) (by kernel_rfl) (by kernel_rfl) (by kernel_rfl) (fun _ _ _ h => h) (by assumption) (by rfl) ?_
          try simp only [Act.put, List.setIfInBounds_toArray, List.set_cons_zero, List.set_cons_succ, List.getElem_toArray, List.getElem_cons_zero, List.getElem_cons_succ]
          refine anyR_skip (i := 35) rfl (by kernel_rfl) (by kernel_rfl) (by kernel_rfl) (by kernel_rfl) (fun _ _ _ h => h) (by assumption) (by rfl) ?_
          try simp only [Act.put, List.setIfInBounds_toArray, List.set_cons_zero, List.set_cons_succ, List.getElem_toArray, List.getElem_cons_zero, List.getElem_cons_succ]
          refine anyR_skip (i := 36) rfl (by kernel_rfl) (by kernel_rfl) (by kernel_rfl) (by kernel_rfl) (fun _ _ _ h => h) (by assumption) (by rfl) ?_
          try simp only [Act.put, List.setIfInBounds_toArray, List.set_cons_zero, List.set_cons_succ, List.getElem_toArray, List.getElem_cons_zero, List.getElem_cons_succ]
          refine anyR_skip (i := 37) rfl (by kernel_rfl) (by kernel_rfl) (by kernel_rfl) (by kernel_rfl) (fun _ _ _ h => h) (by assumption) (by rfl) ?_
          try simp only [Act.put, List.setIfInBounds_toArray, List.set_cons_zero, List.set_cons_succ, List.getElem_toArray, List.getElem_cons_zero, List.getElem_cons_succ]
          refine anyR_skip (i := 38) rfl (by kernel_rfl) (by kernel_rfl) (by kernel_rfl) (by kernel_rfl) (fun _ _ _ h => h) (by assumption) (by rfl) ?_
          try simp only [Act.put, List.setIfInBounds_toArray, List.set_cons_zero, List.set_cons_succ, List.getElem_toArray, List.getElem_cons_zero, List.getElem_cons_succ]
          refine anyR_skip (i := 39) rfl (by kernel_rfl) (by kernel_rfl) (by kernel_rfl) (by kernel_rfl) (fun _ _ _ h => h) (by assumption) (by rfl) ?_
          try simp only [Act.put, List.setIfInBounds_toArray, List.set_cons_zero, List.set_cons_succ, List.getElem_toArray, List.getElem_cons_zero, List.getElem_cons_succ]
          refine anyR_skip (i := 40) rfl (by kernel_rfl) (by kernel_rfl) (by kernel_rfl) (by kernel_rfl) (fun _ _ _ h => h) (by assumption) (by rfl) ?_
          try simp only [Act.put, List.setIfInBounds_toArray, List.set_cons_zero, List.set_cons_succ, List.getElem_toArray, List.getElem_cons_zero, List.getElem_cons_succ]
          refine anyR_skip (i := 41) rfl (by kernel_rfl) (by kernel_rfl) (by kernel_rfl) (by kernel_rfl) (fun _ _ _ h => h) (by assumption) (by rfl) ?_
          try simp only [Act.put, List.setIfInBounds_toArray, List.set_cons_zero, List.set_cons_succ, List.getElem_toArray, List.getElem_cons_zero, List.getElem_cons_succ]
          refine anyR_skip (i := 42) rfl (by kernel_rfl) (by kernel_rfl) (by kernel_rfl) (by kernel_rfl) (fun _ _ _ h => h) (by assumption) (by rfl) ?_
          try simp only [Act.put, List.setIfInBounds_toArray, List.set_cons_zero, List.set_cons_succ, List.getElem_toArray, List.getElem_cons_zero, List.getElem_cons_succ]
          refine anyR_skip (i := 43) rfl (by kernel_rfl) (by kernel_rfl) (by kernel_rfl) (by kernel_rfl) (fun _ _ _ h => h) (by assumption) (by rfl) ?_
          try simp only [Act.put, List.setIfInBounds_toArray, List.set_cons_zero, List.set_cons_succ, List.getElem_toArray, List.getElem_cons_zero, List.getElem_cons_succ]
          refine anyR_take (i := 44) (.bool false) rfl (by kernel_rfl) (by kernel_rfl) (by kernel_rfl) (by kernel_rfl) (fun _ _ _ h => h) (by assumption) ⟨by rfl, ?_⟩ ?_
          · intro W hW
            go_simp
          try simp only [Act.put, List.setIfInBounds_toArray, List.set_cons_zero, List.set_cons_succ, List.getElem_toArray, List.getElem_cons_zero, List.getElem_cons_succ]
          refine anyR_take (i := 45) (.bool false) rfl (by kernel_rfl) (by kernel_rfl) (by kernel_rfl) (by kernel_rfl) (fun _ _ _ h => h) (by assumption) ⟨by rfl, ?_⟩ ?_
          · intro W hW
            go_simp
          try simp only [Act.put, List.setIfInBounds_toArray, List.set_cons_zero, List.set_cons_succ, List.getElem_toArray, List.getElem_cons_zero, List.getElem_cons_succ]
          refine anyR_done (by kernel_rfl) ?_ _
          refine NoPanic.normal ?_
          have BE := Lib.hid (bel_trans HB.out (bel_trans U5.out hS.1))
          clear hS
          go_wp2_with fail
          go_roundw
          case rel => exact ⟨i + 1, by omega, by go_num, BE.out⟩
          case measure => simp [intOf]; omega
      · have d0 := decide_eq_false (show ¬ (i : Int) < (S.length : Int) by omega)
        have z0 := C5.cell 0 rfl
        have C6 := Lib.hid C5
        have S6 := Lib.hid S5
        have G6 := Lib.hid (G4.out.below HB.out)
        have H6 := Lib.hid (bel_trans B4.out HB.out)
        clear C5 R5 S5
        go_wp2_with fail
        clear z0
        have z0 := C6.out.cell 0 rfl
        go_loop [13] (fun t => ∃ x : Nat, x ≤ N ∧ t = .int .i64 x) (fun t => N - (intOf t).toNat)
        case atStart => exact ⟨0, Nat.zero_le _, rfl⟩
        case round =>
          obtain ⟨x, hx, rfl⟩ := hrel
          by_cases hxn : x < N
          · have dx := decide_eq_true (show (x : Int) < (N : Int) by omega)
            have EX := Lib.hid (EV.out x hxn)
            go_wp2_with fail
            go_loop [14, 15] (fun e t => ∃ j : Nat, j ≤ S.length ∧ t = .int .i64 j ∧ e = .bool ((S.take j).all fun z => z.any (· == (x : Int)))) (fun _ t => S.length - (intOf t).toNat)
            case atStart => exact ⟨0, Nat.zero_le _, rfl, rfl⟩
            case round =>
              obtain ⟨j, hj, rfl, rfl⟩ := hrel
              by_cases hjl : j < S.length
              · have dj := decide_eq_true (show (j : Int) < (S.length : Int) by omega)
                have j0 : (0 : Int) ≤ (j : Int) := by omega
                have j1 : (j : Int) < (S.length : Int) := by omega
                obtain ⟨g', Ai, ci, z, e1, _, gl5, hz, cz, oz, _⟩ := S6.out.at hjl
                simp only [Option.some.injEq, Addr.mk.injEq, and_true] at e1
                subst e1
                have RH := Lib.hid (r8Has_any Ai _ ci z x wr oz.ints)
                have TK := Lib.hid (show ((S.take (j + 1)).all fun z => z.any (· == (x : Int))) = (((S.take j).all fun z => z.any (· == (x : Int))) && z.any (· == (x : Int))) by rw [take_snoc' hz.out, List.all_append]; simp)
                obtain ⟨v, hv⟩ : ∃ v, ((S.take j).all fun z => z.any (· == (x : Int))) = v := ⟨_, rfl⟩
                obtain ⟨u, hu⟩ : ∃ u, z.any (· == (x : Int)) = u := ⟨_, rfl⟩
                rw [hv, hu] at TK
                rw [hv]
                rw [hu] at RH
                clear hv hu oz hz
                cases v
                · go_wp2_with fail
                  go_round
                  case rel => exact ⟨j + 1, by omega, by go_num, by rw [TK.out]; rfl⟩
                  case measure => simp [intOf]; omega
                · go_wp2_with fail
                  refine RH.out.mono ?_
                  rintro e w1 ⟨rfl, rfl⟩
                  go_wp2_with fail
                  go_round
                  case rel => exact ⟨j + 1, by omega, by go_num, by rw [TK.out]; rfl⟩
                  case measure => simp [intOf]; omega
              · obtain rfl : j = S.length := by omega
                have dj := decide_eq_false (show ¬ (S.length : Int) < (S.length : Int) by omega)
                have RH := Lib.hid (r8Has_any AG _ cG G x wr G6.out.ints)
                rw [List.take_length, EX.out]
                obtain ⟨u, hu⟩ : ∃ u, G.any (· == (x : Int)) = u := ⟨_, rfl⟩
                rw [hu] at RH ⊢
                have uu : (u != u) = false := by simp
                clear hu
                go_wp2_with fail
                refine RH.out.mono ?_
                rintro e w1 ⟨rfl, rfl⟩
                go_wp2_with fail
                go_round
                case rel => exact ⟨x + 1, by omega, by go_num⟩
                case measure => simp [intOf]; omega
          · obtain rfl : x = N := by omega
            have dx := decide_eq_false (show ¬ (x : Int) < (x : Int) by omega)
            go_wp2_with fail
            go_ret
            exact ⟨rfl, H6.out⟩
end Go.Proofs.Yteejfjgofpolkaa
