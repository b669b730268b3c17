/- FnCompleted, walked. -/
import Derived.Test.YtiodbjfchfmlcaaCpl
namespace Go.Proofs.Ytiodbjfchfmlcaa
set_option linter.unusedVariables false
set_option linter.unusedSimpArgs false
set_option maxRecDepth 100000
open Go.RowKit Go.Deep
set_option maxHeartbeats 8000000 in
theorem fnCompleted_walk (w : World) (A : Option Addr) (n0 c : Nat) (zs : List Int) (h : Ints .u8 w A n0 c zs) (B : Option Addr) (m0 d : Nat) (ys : List Int) (k : Ints .u8 w B m0 d ys) :
    Calls Try.prog 5 #[.slice A n0 c, .slice B m0 d] w fun e w' => e = .returned (.bool true) ∧ Below w.heap.size w w' := by
  have hn := h.short
  have hm := k.short
  by_cases h1 : (decide ((1048576 : Int) < n0) || decide ((1048576 : Int) < m0)) = true
  · have H1 := Lib.hid h1
    clear h1
    go_enter Try.func5, Try.ntmps5
    go_wp2_with fail
    refine (b10Long_ok A n0 c B m0 d _ hn hm).mono ?_
    rintro e w1 ⟨rfl, rfl⟩
    rw [H1.out]
    go_wp2_with fail
    go_ret
    exact ⟨rfl, Below.refl _ _⟩
  have H1 : Hid ((decide ((1048576 : Int) < n0) || decide ((1048576 : Int) < m0)) = false) := by show _ = _; simpa using h1
  have HA := Lib.hid h
  clear h1 h k
  go_enter Try.func5, Try.ntmps5
  go_wp2_with fail
  refine (b10Long_ok A n0 c B m0 d _ hn hm).mono ?_
  rintro e w1 ⟨rfl, rfl⟩
  rw [H1.out]
  go_wp2_with fail
  refine (b10Election_any A n0 c zs _ HA.out).mono ?_
  rintro r w2 ⟨e, CA, m, cc, AA, n, ac, rfl, ok, hel, b2⟩
  have OK := Lib.hid ok
  have OW := Lib.hid ok.wide
  have hm := hel.cl
  have hn := hel.al
  have h6 := ok.cs1
  have a6 := ok.ap1
  have mon := ok.mon
  have b0 := bel_alloc w2 (.cells #[.int .i64 e.mon, .slice CA m cc, .slice AA n ac] 27)
  have CE := Lib.hid (Cs.new w2 [.int .i64 e.mon, .slice CA m cc, .slice AA n ac] 27)
  have HE := Lib.hid (hel.below b0)
  have B2 := Lib.hid (bel_trans b2 b0)
  simp only [List.toArray] at CE
  obtain ⟨ge, hge⟩ : ∃ z, w2.heap.size = z := ⟨_, rfl⟩
  obtain ⟨w3, hw3⟩ : ∃ z, w2.alloc (.cells #[.int .i64 e.mon, .slice CA m cc, .slice AA n ac] 27) = z := ⟨_, rfl⟩
  rw [hw3] at CE HE B2
  rw [hge] at CE
  have HGE := Lib.hid hge
  have HW3 := Lib.hid hw3
  have y0 := CE.out.cell 0 rfl
  have y1 := CE.out.cell 1 rfl
  have y2 := CE.out.cell 2 rfl
  have m6 : m ≤ 6 := by omega
  clear ok hel b0 b2 hge hw3 H1 HA
  go_upto_region 4 with fail
  rw [HGE.out, HW3.out]
  go_wp2_with fail
  refine (completed_ok CA m cc AA n ac e w3 HE.out OK.out).mono ?_
  rintro r w4 ⟨⟨L, M, O, oc, rfl, hc, ho⟩, b4⟩
  have HC := Lib.hid hc
  have M0 := hc.lo
  have M1 := hc.hi
  have hcost := hc.cost
  have EK := Lib.hid (hc.fin.1.keep (withM_ok OW.out (by omega) M1))
  have LT := Lib.hid (fun x (hx : x ∈ L) => (show x < m by rw [← hm]; exact EK.out.lt x hx))
  have O4 := Lib.hid ho
  have C4 := Lib.hid (CE.out.below b4)
  have H4 := Lib.hid (HE.out.below b4)
  have B4 := Lib.hid (bel_trans B2.out b4)
  have y0 := C4.out.cell 0 rfl
  have y1 := C4.out.cell 1 rfl
  have y2 := C4.out.cell 2 rfl
  have dM0 := decide_eq_false (show ¬ M < e.mon by omega)
  have dM1 := decide_eq_false (show ¬ 360 < M by omega)
  have BS := Lib.hid (fun W (hW : Below w4.heap.size w4 W) => b10Sorted_ok L O L.length oc m W (O4.out.ints.below hW) m6)
  have CO0 := fun W (SO : Option Addr) (so : Nat) (hW : Below w4.heap.size w4 W) (hi : Ints .i64 W SO (srtN L m).length so (zns (srtN L m))) => costOf_ok CA m cc AA n ac e (srtN L m) SO so W (H4.out.below hW) OK.out (fun x hx => LT.out x ((srtN_perm EK.out.nd LT.out).mem_iff.1 hx)) (by have := srtN_len L m; omega) hi (srtN_set L m)
  rw [costL_srt EK.out.nd LT.out] at CO0
  obtain ⟨q, hq⟩ : ∃ z, costL e.cs L = z := ⟨_, rfl⟩
  simp only [hq] at CO0 hcost
  have CO := Lib.hid CO0
  have dq := decide_eq_false (show ¬ e.mon < q by omega)
  have SS := Lib.hid (fun W (hW : Below w4.heap.size w4 W) => (show Below w4.heap.size w4 W ∧ W.cell? ⟨ge, 0, none⟩ = some (.int .i64 e.mon) ∧ W.cell? ⟨ge, 1, none⟩ = some (.slice CA m cc) ∧ W.cell? ⟨ge, 2, none⟩ = some (.slice AA n ac) from
    ⟨hW, (C4.out.below hW).cell 0 rfl, (C4.out.below hW).cell 1 rfl, (C4.out.below hW).cell 2 rfl⟩))
  have B34 := Lib.hid b4
  clear hc ho b4 CE HGE HW3 hq CO0
  go_wp2_with fail
  refine wp_region_noPanic ?_
  refine wp_region_R (inFirst (fun W => Below w4.heap.size w4 W ∧ W.cell? ⟨ge, 0, none⟩ = some (.int .i64 e.mon) ∧ W.cell? ⟨ge, 1, none⟩ = some (.slice CA m cc) ∧ W.cell? ⟨ge, 2, none⟩ = some (.slice AA n ac)) 12) (by kernel_rfl) ?_
  have hS := SS.out w4.drew ⟨rfl, rfl, rfl, Nat.le_refl _, fun _ _ => rfl⟩
  refine anyR_take (i := 0) (.agg #[.int .i64 e.mon, .slice CA m cc, .slice AA n ac]) rfl (by kernel_rfl) (by kernel_rfl) (by kernel_rfl) (by kernel_rfl) (fun _ _ _ h => h) (by assumption) ⟨by rfl, ?_⟩ ?_
  · intro W hW
    go_simp
  try simp only [Act.put, List.setIfInBounds_toArray, List.set_cons_zero, List.set_cons_succ, List.getElem_toArray, List.getElem_cons_zero, List.getElem_cons_succ]
  refine anyR_take (i := 1) (.slice O L.length oc) rfl (by kernel_rfl) (by kernel_rfl) (by kernel_rfl) (by kernel_rfl) (fun _ _ _ h => h) (by assumption) ⟨by rfl, ?_⟩ ?_
  · intro W hW
    go_simp
  try simp only [Act.put, List.setIfInBounds_toArray, List.set_cons_zero, List.set_cons_succ, List.getElem_toArray, List.getElem_cons_zero, List.getElem_cons_succ]
  refine anyR_take (i := 2) (.pointer (some ⟨ge, 1, none⟩)) rfl (by kernel_rfl) (by kernel_rfl) (by kernel_rfl) (by kernel_rfl) (fun _ _ _ h => h) (by assumption) ⟨by rfl, ?_⟩ ?_
  · intro W hW
    go_simp
  try simp only [Act.put, List.setIfInBounds_toArray, List.set_cons_zero, List.set_cons_succ, List.getElem_toArray, List.getElem_cons_zero, List.getElem_cons_succ]
  refine anyR_take (i := 3) (.slice CA m cc) rfl (by kernel_rfl) (by kernel_rfl) (by kernel_rfl) (by kernel_rfl) (fun _ _ _ h => h) (by assumption) ⟨by rfl, ?_⟩ ?_
  · intro W hW
    go_simp
  try simp only [Act.put, List.setIfInBounds_toArray, List.set_cons_zero, List.set_cons_succ, List.getElem_toArray, List.getElem_cons_zero, List.getElem_cons_succ]
  refine anyR_take (i := 4) (.int .i64 (m : Nat)) rfl (by kernel_rfl) (by kernel_rfl) (by kernel_rfl) (by kernel_rfl) (fun _ _ _ h => h) (by assumption) ⟨by rfl, ?_⟩ ?_
  · intro W hW
    go_simp
  try simp only [Act.put, List.setIfInBounds_toArray, List.set_cons_zero, List.set_cons_succ, List.getElem_toArray, List.getElem_cons_zero, List.getElem_cons_succ]
  refine anyR_one (i := 5) (by kernel_rfl) rfl ?_
  intro K hK
  go_simp
  go_at_call 20
  refine (BS.out _ hS.1).mono ?_
  rintro _ v1 ⟨SO, Lo, so, rfl, so1, c1⟩
  have T1 := Lib.hid (bel_trans hS.1 c1)
  have hT := SS.out v1 T1.out
  refine hK.out _ _ (fun _ => hT) ?_
  have LOE := so1.len
  rw [zns_len] at LOE
  subst LOE
  have S1 := Lib.hid so1
  clear hS c1 so1
  have hS := hT
  clear hT
  clear hK K
  try simp only [Act.put, List.setIfInBounds_toArray, List.set_cons_zero, List.set_cons_succ, List.getElem_toArray, List.getElem_cons_zero, List.getElem_cons_succ]
  refine anyR_one (i := 6) (by kernel_rfl) rfl ?_
  intro K hK
  go_simp
  go_at_call 19
  refine (CO.out v1 SO so T1.out S1.out.ints).mono ?_
  rintro _ v2 ⟨rfl, c2⟩
  have T2 := Lib.hid (bel_trans T1.out c2)
  have hT := SS.out v2 T2.out
  refine hK.out _ _ (fun _ => hT) ?_
  clear hS c2
  have hS := hT
  clear hT
  clear hK K
  try simp only [Act.put, List.setIfInBounds_toArray, List.set_cons_zero, List.set_cons_succ, List.getElem_toArray, List.getElem_cons_zero, List.getElem_cons_succ]
  refine anyR_take (i := 7) (.tuple #[.int .i64 q, .bool true]) rfl (by kernel_rfl) (by kernel_rfl) (by kernel_rfl) (by kernel_rfl) (fun _ _ _ h => h) (by assumption) ⟨by rfl, ?_⟩ ?_
  · intro W hW
    go_simp
  try simp only [Act.put, List.setIfInBounds_toArray, List.set_cons_zero, List.set_cons_succ, List.getElem_toArray, List.getElem_cons_zero, List.getElem_cons_succ]
  refine anyR_take (i := 8) (.int .i64 q) rfl (by kernel_rfl) (by kernel_rfl) (by kernel_rfl) (by kernel_rfl) (fun _ _ _ h => h) (by assumption) ⟨by rfl, ?_⟩ ?_
  · intro W hW
    go_simp
  try simp only [Act.put, List.setIfInBounds_toArray, List.set_cons_zero, List.set_cons_succ, List.getElem_toArray, List.getElem_cons_zero, List.getElem_cons_succ]
  refine anyR_take (i := 9) (.bool true) rfl (by kernel_rfl) (by kernel_rfl) (by kernel_rfl) (by kernel_rfl) (fun _ _ _ h => h) (by assumption) ⟨by rfl, ?_⟩ ?_
  · intro W hW
    go_simp
  try simp only [Act.put, List.setIfInBounds_toArray, List.set_cons_zero, List.set_cons_succ, List.getElem_toArray, List.getElem_cons_zero, List.getElem_cons_succ]
  refine anyR_take (i := 10) (.int .i64 q) rfl (by kernel_rfl) (by kernel_rfl) (by kernel_rfl) (by kernel_rfl) (fun _ _ _ h => h) (by assumption) ⟨by rfl, ?_⟩ ?_
  · intro W hW
    go_simp
  try simp only [Act.put, List.setIfInBounds_toArray, List.set_cons_zero, List.set_cons_succ, List.getElem_toArray, List.getElem_cons_zero, List.getElem_cons_succ]
  refine anyR_take (i := 11) (.bool true) rfl (by kernel_rfl) (by kernel_rfl) (by kernel_rfl) (by kernel_rfl) (fun _ _ _ h => h) (by assumption) ⟨by rfl, ?_⟩ ?_
  · intro W hW
    go_simp
  try simp only [Act.put, List.setIfInBounds_toArray, List.set_cons_zero, List.set_cons_succ, List.getElem_toArray, List.getElem_cons_zero, List.getElem_cons_succ]
  refine anyR_done (by kernel_rfl) ?_ _
  refine NoPanic.normal ?_
  have BU := Lib.hid hS.1
  clear hS SS S1 T1 T2
  have C5 := Lib.hid (C4.out.below BU.out)
  have H5 := Lib.hid (H4.out.below BU.out)
  have B5 := Lib.hid (bel_trans B4.out BU.out)
  have O5 := Lib.hid (O4.out.below BU.out)
  have y0 := C5.out.cell 0 rfl
  have y1 := C5.out.cell 1 rfl
  have y2 := C5.out.cell 2 rfl
  have ba := bel_alloc v2 (.cells #[.int .i64 e.mon, .slice CA m cc, .slice AA n ac] 27)
  have CX := Lib.hid (Cs.new v2 [.int .i64 e.mon, .slice CA m cc, .slice AA n ac] 27)
  have C6 := Lib.hid (C5.out.below ba)
  have H6 := Lib.hid (H5.out.below ba)
  have B6 := Lib.hid (bel_trans B5.out ba)
  have O6 := Lib.hid (O5.out.below ba)
  have gel : ge < v2.heap.size := C5.out.1
  have B36 := Lib.hid (bel_trans B34.out (bel_trans BU.out ba))
  have gx3 : w3.heap.size ≤ v2.heap.size := (bel_trans B34.out BU.out).size
  have OB := Lib.hid (fun g (e : (Value.slice O L.length oc).ownBlock = some g) => (O5.out.block g e).2)
  simp only [List.toArray] at CX
  clear BU C4 H4 B4 O4 ba C5 H5 B5 O5 BS CO
  go_upto_region 11 with fail
  obtain ⟨gx, hgx⟩ : ∃ z, v2.heap.size = z := ⟨_, rfl⟩
  obtain ⟨w6, hw6⟩ : ∃ z, v2.alloc (.cells #[.int .i64 e.mon, .slice CA m cc, .slice AA n ac] 27) = z := ⟨_, rfl⟩
  rw [hw6, hgx] at CX
  rw [hw6] at C6 H6 B6 O6 B36
  rw [hgx] at gel gx3 OB
  rw [hw6, hgx]
  have x0 := CX.out.cell 0 rfl
  have x1 := CX.out.cell 1 rfl
  have x2 := CX.out.cell 2 rfl
  have f0 := CX.out.free 0 rfl
  clear hgx hw6 y0 y1 y2
  by_cases h60 : M ≤ 60
  · have d60 := decide_eq_true h60
    have CX7 := Lib.hid (CX.out.set 0 (.int .i64 M) (by simp))
    have C7 := Lib.hid (C6.out.far (show ge ≠ gx by omega) 0 (.int .i64 M))
    have B37 := Lib.hid (B36.out.setCell (p := ⟨gx, 0, none⟩) gx3 (.int .i64 M))
    have w3w : w.heap.size ≤ w3.heap.size := by have := B2.out.size; omega
    have B7 := Lib.hid (B6.out.setCell (p := ⟨gx, 0, none⟩) (by show w.heap.size ≤ gx; omega) (.int .i64 M))
    have O7 := Lib.hid (O6.out.kept (grown_set w6 gx 0 (.int .i64 M)) (ne_far OB.out (Nat.le_refl _)))
    simp only [List.set_cons_zero] at CX7
    clear CX C6 H6 B6 O6 B36
    go_upto_region 13 with fail
    obtain ⟨w7, hw7⟩ : ∃ z, w6.setCell ⟨gx, 0, none⟩ (.int .i64 M) = z := ⟨_, rfl⟩
    rw [hw7] at CX7 C7 B37 B7 O7
    rw [hw7]
    have x0 := CX7.out.cell 0 rfl
    have x1 := CX7.out.cell 1 rfl
    have x2 := CX7.out.cell 2 rfl
    clear hw7 f0
    have ES0 := equalShares_ok CA m cc AA n ac (withM e M) w7 (withM_W (HE.out.below B37.out) M) (withM_ok6 OK.out (by omega) h60)
    rw [show (withM e M).mon = M from rfl] at ES0
    have ES := Lib.hid ES0
    clear ES0
    go_wp2_with fail
    refine ES.out.mono ?_
    rintro r w8 ⟨⟨L2, O2, oc2, rfl, hf, ho⟩, b8⟩
    obtain rfl : L = L2 := HC.out.fin.same hf
    have N8 := Lib.hid (b10Nums_eq O2 L.length oc2 O oc (zns L) w8 ho.ints (O7.out.below b8).ints)
    have CX8 := Lib.hid (CX7.out.below b8)
    have C8 := Lib.hid (C7.out.below b8)
    have B38 := Lib.hid (bel_trans B37.out b8)
    have B8 := Lib.hid (bel_trans B7.out b8)
    clear hf ho b8 CX7 C7 B37 B7 O7 ES x0 x1 x2
    go_wp2_with fail
    refine N8.out.mono ?_
    rintro r w9 ⟨rfl, b9⟩
    have CX9 := Lib.hid (CX8.out.below b9)
    have C9 := Lib.hid (C8.out.below b9)
    have B39 := Lib.hid (bel_trans B38.out b9)
    have B9 := Lib.hid (bel_trans B8.out b9)
    clear b9 CX8 C8 B38 B8 N8
    by_cases h59 : M < 60
    · have d61 := decide_eq_true h59
      have WM : IntKind.i64.wrap (M + 1) = M + 1 := IntWalk.i64_in _ (by omega)
      have x0 := CX9.out.cell 0 rfl
      have f0 := CX9.out.free 0 rfl
      have CXa := Lib.hid (CX9.out.set 0 (.int .i64 (M + 1)) (by simp))
      have Ca := Lib.hid (C9.out.far (show ge ≠ gx by omega) 0 (.int .i64 (M + 1)))
      have B3a := Lib.hid (B39.out.setCell (p := ⟨gx, 0, none⟩) gx3 (.int .i64 (M + 1)))
      have Ba := Lib.hid (B9.out.setCell (p := ⟨gx, 0, none⟩) (by show w.heap.size ≤ gx; omega) (.int .i64 (M + 1)))
      simp only [List.set_cons_zero] at CXa
      clear CX9 C9 B39 B9
      go_upto_region 18 with fail
      obtain ⟨wa, hwa⟩ : ∃ z, w9.setCell ⟨gx, 0, none⟩ (.int .i64 (M + 1)) = z := ⟨_, rfl⟩
      rw [hwa] at CXa Ca B3a Ba
      rw [hwa]
      have x0 := CXa.out.cell 0 rfl
      have x1 := CXa.out.cell 1 rfl
      have x2 := CXa.out.cell 2 rfl
      clear hwa f0
      have ES0 := equalShares_ok CA m cc AA n ac (withM e (M + 1)) wa (withM_W (HE.out.below B3a.out) (M + 1)) (withM_ok6 OK.out (by omega) (by omega))
      rw [show (withM e (M + 1)).mon = M + 1 from rfl] at ES0
      have ES := Lib.hid ES0
      clear ES0
      go_wp2_with fail
      refine ES.out.mono ?_
      rintro r wb ⟨⟨L3, O3, oc3, rfl, hf, ho⟩, bb⟩
      obtain ⟨L', hf', hc'⟩ := HC.out.next (by omega)
      obtain rfl : L3 = L' := hf.same hf'
      have E3 := Lib.hid (hf.1.keep (withM_ok OW.out (by omega) (by omega)))
      have LT3 := Lib.hid (fun x (hx : x ∈ L3) => (show x < m by rw [← hm]; exact E3.out.lt x hx))
      have O9 := Lib.hid ho
      have CXb := Lib.hid (CXa.out.below bb)
      have Cb := Lib.hid (Ca.out.below bb)
      have B3b := Lib.hid (bel_trans B3a.out bb)
      have Bb := Lib.hid (bel_trans Ba.out bb)
      have BS := Lib.hid (fun W (hW : Below wb.heap.size wb W) => b10Sorted_ok L3 O3 L3.length oc3 m W (O9.out.ints.below hW) m6)
      have CO0 := fun W (SO : Option Addr) (so : Nat) (hW : Below wb.heap.size wb W) (hi : Ints .i64 W SO (srtN L3 m).length so (zns (srtN L3 m))) => costOf_ok CA m cc AA n ac (withM e (M + 1)) (srtN L3 m) SO so W (withM_W (HE.out.below (bel_trans B3b.out hW)) (M + 1)) (withM_ok6 OK.out (by omega) (by omega)) (fun x hx => LT3.out x ((srtN_perm E3.out.nd LT3.out).mem_iff.1 hx)) (by have := srtN_len L3 m; omega) hi (srtN_set L3 m)
      rw [show (withM e (M + 1)).mon = M + 1 from rfl, show (withM e (M + 1)).cs = e.cs from rfl, costL_srt E3.out.nd LT3.out] at CO0
      obtain ⟨q3, hq3⟩ : ∃ z, costL e.cs L3 = z := ⟨_, rfl⟩
      simp only [hq3] at CO0 hc'
      have CO := Lib.hid CO0
      have dq3 := decide_eq_true hc'
      have SS := Lib.hid (fun W (hW : Below wb.heap.size wb W) => (show Below wb.heap.size wb W ∧ W.cell? ⟨gx, 0, none⟩ = some (.int .i64 (M + 1)) ∧ W.cell? ⟨gx, 1, none⟩ = some (.slice CA m cc) ∧ W.cell? ⟨gx, 2, none⟩ = some (.slice AA n ac) ∧ W.cell? ⟨ge, 1, none⟩ = some (.slice CA m cc) from
        ⟨hW, (CXb.out.below hW).cell 0 rfl, (CXb.out.below hW).cell 1 rfl, (CXb.out.below hW).cell 2 rfl, (Cb.out.below hW).cell 1 rfl⟩))
      obtain ⟨z2, hz2⟩ : ∃ z, v2 = z := ⟨_, rfl⟩
      clear hf hf' ho bb hq3 CO0 CXa Ca B3a Ba ES x0 x1 x2 hz2
      go_wp2_with fail
      refine wp_region_noPanic ?_
      refine wp_region_R (inFirst (fun W => Below wb.heap.size wb W ∧ W.cell? ⟨gx, 0, none⟩ = some (.int .i64 (M + 1)) ∧ W.cell? ⟨gx, 1, none⟩ = some (.slice CA m cc) ∧ W.cell? ⟨gx, 2, none⟩ = some (.slice AA n ac) ∧ W.cell? ⟨ge, 1, none⟩ = some (.slice CA m cc)) 12) (by kernel_rfl) ?_
      have hS := SS.out wb.drew ⟨rfl, rfl, rfl, Nat.le_refl _, fun _ _ => rfl⟩
      refine anyR_take (i := 0) (.agg #[.int .i64 (M + 1), .slice CA m cc, .slice AA n ac]) rfl (by kernel_rfl) (by kernel_rfl) (by kernel_rfl) (by kernel_rfl) (fun _ _ _ h => h) (by assumption) ⟨by rfl, ?_⟩ ?_
      · intro W hW
        go_simp
      try simp only [Act.put, List.setIfInBounds_toArray, List.set_cons_zero, List.set_cons_succ, List.getElem_toArray, List.getElem_cons_zero, List.getElem_cons_succ]
      refine anyR_take (i := 1) (.slice O3 L3.length oc3) rfl (by kernel_rfl) (by kernel_rfl) (by kernel_rfl) (by kernel_rfl) (fun _ _ _ h => h) (by assumption) ⟨by rfl, ?_⟩ ?_
      · intro W hW
        go_simp
      try simp only [Act.put, List.setIfInBounds_toArray, List.set_cons_zero, List.set_cons_succ, List.getElem_toArray, List.getElem_cons_zero, List.getElem_cons_succ]
      refine anyR_take (i := 2) (.pointer (some ⟨ge, 1, none⟩)) rfl (by kernel_rfl) (by kernel_rfl) (by kernel_rfl) (by kernel_rfl) (fun _ _ _ h => h) (by assumption) ⟨by rfl, ?_⟩ ?_
      · intro W hW
        go_simp
      try simp only [Act.put, List.setIfInBounds_toArray, List.set_cons_zero, List.set_cons_succ, List.getElem_toArray, List.getElem_cons_zero, List.getElem_cons_succ]
      refine anyR_take (i := 3) (.slice CA m cc) rfl (by kernel_rfl) (by kernel_rfl) (by kernel_rfl) (by kernel_rfl) (fun _ _ _ h => h) (by assumption) ⟨by rfl, ?_⟩ ?_
      · intro W hW
        go_simp
      try simp only [Act.put, List.setIfInBounds_toArray, List.set_cons_zero, List.set_cons_succ, List.getElem_toArray, List.getElem_cons_zero, List.getElem_cons_succ]
      refine anyR_take (i := 4) (.int .i64 (m : Nat)) rfl (by kernel_rfl) (by kernel_rfl) (by kernel_rfl) (by kernel_rfl) (fun _ _ _ h => h) (by assumption) ⟨by rfl, ?_⟩ ?_
      · intro W hW
        go_simp
      try simp only [Act.put, List.setIfInBounds_toArray, List.set_cons_zero, List.set_cons_succ, List.getElem_toArray, List.getElem_cons_zero, List.getElem_cons_succ]
      refine anyR_one (i := 5) (by kernel_rfl) rfl ?_
      intro K hK
      go_simp
      go_at_call 20
      refine (BS.out _ hS.1).mono ?_
      rintro _ v1 ⟨SO, Lo, so, rfl, so1, c1⟩
      have T1 := Lib.hid (bel_trans hS.1 c1)
      have hT := SS.out v1 T1.out
      refine hK.out _ _ (fun _ => hT) ?_
      have LOE := so1.len
      rw [zns_len] at LOE
      subst LOE
      have S1 := Lib.hid so1
      clear hS c1 so1
      have hS := hT
      clear hT
      clear hK K
      try simp only [Act.put, List.setIfInBounds_toArray, List.set_cons_zero, List.set_cons_succ, List.getElem_toArray, List.getElem_cons_zero, List.getElem_cons_succ]
      refine anyR_one (i := 6) (by kernel_rfl) rfl ?_
      intro K hK
      go_simp
      go_at_call 19
      refine (CO.out v1 SO so T1.out S1.out.ints).mono ?_
      rintro _ v2 ⟨rfl, c2⟩
      have T2 := Lib.hid (bel_trans T1.out c2)
      have hT := SS.out v2 T2.out
      refine hK.out _ _ (fun _ => hT) ?_
      clear hS c2
      have hS := hT
      clear hT
      clear hK K
      try simp only [Act.put, List.setIfInBounds_toArray, List.set_cons_zero, List.set_cons_succ, List.getElem_toArray, List.getElem_cons_zero, List.getElem_cons_succ]
      refine anyR_take (i := 7) (.tuple #[.int .i64 q3, .bool true]) rfl (by kernel_rfl) (by kernel_rfl) (by kernel_rfl) (by kernel_rfl) (fun _ _ _ h => h) (by assumption) ⟨by rfl, ?_⟩ ?_
      · intro W hW
        go_simp
      try simp only [Act.put, List.setIfInBounds_toArray, List.set_cons_zero, List.set_cons_succ, List.getElem_toArray, List.getElem_cons_zero, List.getElem_cons_succ]
      refine anyR_take (i := 8) (.int .i64 q3) rfl (by kernel_rfl) (by kernel_rfl) (by kernel_rfl) (by kernel_rfl) (fun _ _ _ h => h) (by assumption) ⟨by rfl, ?_⟩ ?_
      · intro W hW
        go_simp
      try simp only [Act.put, List.setIfInBounds_toArray, List.set_cons_zero, List.set_cons_succ, List.getElem_toArray, List.getElem_cons_zero, List.getElem_cons_succ]
      refine anyR_take (i := 9) (.bool true) rfl (by kernel_rfl) (by kernel_rfl) (by kernel_rfl) (by kernel_rfl) (fun _ _ _ h => h) (by assumption) ⟨by rfl, ?_⟩ ?_
      · intro W hW
        go_simp
      try simp only [Act.put, List.setIfInBounds_toArray, List.set_cons_zero, List.set_cons_succ, List.getElem_toArray, List.getElem_cons_zero, List.getElem_cons_succ]
      refine anyR_take (i := 10) (.int .i64 q3) rfl (by kernel_rfl) (by kernel_rfl) (by kernel_rfl) (by kernel_rfl) (fun _ _ _ h => h) (by assumption) ⟨by rfl, ?_⟩ ?_
      · intro W hW
        go_simp
      try simp only [Act.put, List.setIfInBounds_toArray, List.set_cons_zero, List.set_cons_succ, List.getElem_toArray, List.getElem_cons_zero, List.getElem_cons_succ]
      refine anyR_take (i := 11) (.bool true) rfl (by kernel_rfl) (by kernel_rfl) (by kernel_rfl) (by kernel_rfl) (fun _ _ _ h => h) (by assumption) ⟨by rfl, ?_⟩ ?_
      · intro W hW
        go_simp
      try simp only [Act.put, List.setIfInBounds_toArray, List.set_cons_zero, List.set_cons_succ, List.getElem_toArray, List.getElem_cons_zero, List.getElem_cons_succ]
      refine anyR_done (by kernel_rfl) ?_ _
      refine NoPanic.normal ?_
      have BU := Lib.hid hS.1
      clear hS SS S1 T1 T2
      have y0 := (Cb.out.below BU.out).cell 0 rfl
      have BF := Lib.hid (bel_trans Bb.out BU.out)
      clear BU
      go_wp2_with fail
      go_ret
      exact ⟨by first | rfl | (simp [dq3]), BF.out⟩
    · have d61 := decide_eq_false h59
      go_wp2_with fail
      go_ret
      exact ⟨rfl, B9.out⟩
  · have d60 := decide_eq_false h60
    have d61 := decide_eq_false (show ¬ M < 60 by omega)
    go_wp2_with fail
    go_ret
    exact ⟨rfl, B6.out⟩
end Go.Proofs.Ytiodbjfchfmlcaa
