/- CompletedShares, CostOf and what FnCompleted calls, walked. -/
import Derived.Test.YtiodbjfchfmlcaaCplM
namespace Go.Proofs.Ytiodbjfchfmlcaa
set_option linter.unusedVariables false
set_option linter.unusedSimpArgs false
set_option maxRecDepth 100000
open Go.RowKit Go.Deep
theorem cost_ok (mon : Int) (CA : Option Addr) (m cc : Nat) (AA : Option Addr) (n ac : Nat) (e : El) (L : List Nat) (OA : Option Addr) (oc : Nat) (w : World) (h : ElW w CA m cc AA n ac e) (ok : EOk' e) (hL : ∀ x ∈ L, x < m) (hl : L.length ≤ 6) (ho : Ints .i64 w OA L.length oc (zns L)) :
    Calls Try.prog 41 #[.agg #[.int .i64 mon, .slice CA m cc, .slice AA n ac], .slice OA L.length oc] w fun r w' => r = .returned (.int .i64 (costL e.cs L)) ∧ Below w.heap.size w w' := by
  have hm := h.cl
  have h6 := ok.cs1
  have b0 := bel_alloc w (.cells #[.int .i64 mon, .slice CA m cc, .slice AA n ac] 27)
  have C0 := (Cs.new w [.int .i64 mon, .slice CA m cc, .slice AA n ac] 27)
  have HB0 := Lib.hid b0
  have HC0 := Lib.hid C0
  have H1 := Lib.hid (h.below b0)
  have O1 := Lib.hid (ho.below b0)
  have HL := Lib.hid (fun x (hx : x ∈ L) => (show x < e.cs.length from by rw [hm]; exact hL x hx))
  have OK := Lib.hid ok
  simp only [List.toArray] at HC0
  have y1 := HC0.out.cell 1 rfl
  clear h ok b0 C0 hL ho
  go_enter Try.func41, Try.ntmps41
  go_wp2_with fail
  go_loop [5, 10] (fun s i => ∃ k : Nat, k ≤ L.length ∧ s = .int .i64 (costL e.cs (L.take k)) ∧ i = .int .i64 k) (fun _ i => L.length - (intOf i).toNat)
  case atStart => exact ⟨0, Nat.zero_le _, by simp [costL], rfl⟩
  case round =>
    obtain ⟨k, hk, rfl, rfl⟩ := hrel
    by_cases hlt : k < L.length
    · have d0 := decide_eq_true (show (k : Int) < (L.length : Int) by omega)
      obtain ⟨x, hx⟩ : ∃ x, L[k]? = some x := ⟨_, List.getElem?_eq_getElem hlt⟩
      have xe := HL.out x (List.mem_of_getElem? hx)
      obtain ⟨bO, oO, rfl, hbO, cO⟩ := ints_get' O1.out (zns_at hx)
      obtain ⟨bc, oC, c, rfl, hbc, hcc, c0, c1, hcz⟩ := H1.out.c.at (show x < m by omega)
      have GD : e.cs.getD x 0 = c := by rw [List.getD_eq_getElem?_getD, hcz.out]; rfl
      have NX := Lib.hid (show costL e.cs (L.take (k + 1)) = costL e.cs (L.take k) + c by rw [costL_snoc hx, GD])
      have bd := costL_bd OK.out (L.take k) (fun y hy => HL.out y (List.mem_of_mem_take hy))
      have cb := OK.out.costx xe
      rw [GD] at cb
      have lt : (L.take k).length ≤ 6 := by rw [List.length_take]; omega
      obtain ⟨s, hs⟩ : ∃ z, costL e.cs (L.take k) = z := ⟨_, rfl⟩
      rw [hs] at NX bd ⊢
      have W1 : IntKind.i64.wrap (s + c) = s + c := IntWalk.i64_in _ (by omega)
      have k0 : (0 : Int) ≤ (k : Int) := by omega
      have k1 : (k : Int) < (L.length : Int) := by omega
      have x0 : (0 : Int) ≤ (x : Int) := by omega
      have x1 : (x : Int) < (m : Int) := by omega
      clear hx GD hs hcz
      go_wp2_with fail
      go_round
      case rel => exact ⟨k + 1, by omega, by rw [NX.out], by go_num⟩
      case measure => simp [intOf]; omega
    · obtain rfl : L.length = k := by omega
      have d0 := decide_eq_false (show ¬ (L.length : Int) < (L.length : Int) by omega)
      rw [List.take_length]
      go_wp2_with fail
      go_ret
      exact ⟨rfl, HB0.out⟩
theorem isProjects_ok (CA : Option Addr) (m cc : Nat) (AA : Option Addr) (n ac : Nat) (e : El) (OA : Option Addr) (l oc : Nat) (zs : List Int) (w : World) (h : ElW w CA m cc AA n ac e) (ok : EOk e) (ho : Ints .i64 w OA l oc zs) (hs : SetP zs m) :
    Calls Try.prog 42 #[.agg #[.int .i64 e.mon, .slice CA m cc, .slice AA n ac], .slice OA l oc] w fun r w' => r = .returned (.bool true) ∧ Below w.heap.size w w' := by
  have hm := h.cl
  have h6 := ok.cs1
  have b0 := bel_alloc w (.cells #[.int .i64 e.mon, .slice CA m cc, .slice AA n ac] 27)
  have C0 := (Cs.new w [.int .i64 e.mon, .slice CA m cc, .slice AA n ac] 27)
  have VE := Lib.hid (validEl_ok CA m cc AA n ac e _ (h.below b0) ok)
  have HB0 := Lib.hid b0
  have HC0 := Lib.hid C0
  have IS := Lib.hid (fun W (hW : Below w.heap.size w W) => isSet_any OA l oc zs m W (ho.below hW) (by omega) (by omega))
  have HS := Lib.hid hs
  simp only [List.toArray] at VE HC0
  clear h ok b0 C0 ho hs
  go_enter Try.func42, Try.ntmps42
  go_wp2_with fail
  refine VE.out.mono ?_
  rintro r w1 ⟨rfl, b1⟩
  have y1 := (HC0.out.below b1).cell 1 rfl
  have B1 := Lib.hid (bel_trans HB0.out b1)
  clear b1
  go_wp2_with fail
  refine (IS.out _ B1.out).mono ?_
  rintro r w2 ⟨b, rfl, hb, rfl⟩
  obtain rfl : b = true := hb.2 HS.out
  go_wp2_with fail
  go_ret
  exact ⟨rfl, B1.out⟩
theorem costOf_ok (CA : Option Addr) (m cc : Nat) (AA : Option Addr) (n ac : Nat) (e : El) (L : List Nat) (OA : Option Addr) (oc : Nat) (w : World) (h : ElW w CA m cc AA n ac e) (ok : EOk e) (hL : ∀ x ∈ L, x < m) (hl : L.length ≤ 6) (ho : Ints .i64 w OA L.length oc (zns L)) (hs : SetP (zns L) m) :
    Calls Try.prog 19 #[.agg #[.int .i64 e.mon, .slice CA m cc, .slice AA n ac], .slice OA L.length oc] w fun r w' => r = .returned (.tuple #[.int .i64 (costL e.cs L), .bool true]) ∧ Below w.heap.size w w' := by
  have b0 := bel_alloc w (.cells #[.int .i64 e.mon, .slice CA m cc, .slice AA n ac] 27)
  have C0 := (Cs.new w [.int .i64 e.mon, .slice CA m cc, .slice AA n ac] 27)
  have IP := Lib.hid (isProjects_ok CA m cc AA n ac e OA L.length oc (zns L) _ (h.below b0) ok (ho.below b0) hs)
  have HB0 := Lib.hid b0
  have HC0 := Lib.hid C0
  have CO := Lib.hid (fun W (hW : Below w.heap.size w W) => cost_ok e.mon CA m cc AA n ac e L OA oc W (h.below hW) ok.wide hL hl (ho.below hW))
  simp only [List.toArray] at IP HC0
  clear h ok b0 C0 hL ho hs
  go_enter Try.func19, Try.ntmps19
  go_wp2_with fail
  refine IP.out.mono ?_
  rintro r w1 ⟨rfl, b1⟩
  have C1 := HC0.out.below b1
  have y0 := C1.cell 0 rfl
  have y1 := C1.cell 1 rfl
  have y2 := C1.cell 2 rfl
  have B1 := Lib.hid (bel_trans HB0.out b1)
  clear b1 C1
  go_wp2_with fail
  refine (CO.out _ B1.out).mono ?_
  rintro r w2 ⟨rfl, b2⟩
  have B2 := Lib.hid (bel_trans B1.out b2)
  clear b2 y0 y1 y2
  go_wp2_with fail
  exact bodyPost_ret (v := .tuple #[.int .i64 (costL e.cs L), .bool true]) (by simp [results, Try.results19, go_sem]) rfl ⟨rfl, B2.out⟩
theorem b10Sorted_ok (L : List Nat) (OA : Option Addr) (l oc m : Nat) (w : World) (ho : Ints .i64 w OA l oc (zns L)) (m6 : m ≤ 6) :
    Calls Try.prog 20 #[.slice OA l oc, .int .i64 m] w fun r w' => ∃ O k c, r = .returned (.slice O k c) ∧ OwnI w' w.heap.size O k c (zns (srtN L m)) ∧ Below w.heap.size w w' := by
  have HO := Lib.hid ho
  have O1 := Lib.hid (ownI_lit w)
  have BL := Lib.hid (bel_alloc w (.cells #[] 2))
  clear ho
  go_enter Try.func20, Try.ntmps20
  go_wp2_with fail
  go_loopw [5, 6] (fun s t wr => ∃ (k q : Nat) (O : Option Addr) (c : Nat), k ≤ m ∧ s = .slice O q c ∧ t = .int .i64 k ∧ OwnI wr w.heap.size O q c (zns (srtN L k)) ∧ Below w.heap.size w wr) (fun _ t _ => m - (intOf t).toNat)
  case atStart => exact ⟨0, 0, _, 0, Nat.zero_le _, rfl, rfl, by simpa [srtN, zns] using O1.out, BL.out⟩
  case round =>
    obtain ⟨k, q, O, c, hk, rfl, rfl, hown, hb⟩ := hrel
    have OI := Lib.hid hown
    have BI := Lib.hid hb
    have bsz := hb.size
    have hq := hown.len
    rw [zns_len] at hq
    have hq2 := srtN_len L k
    have hq3 : q ≤ 6 := by omega
    have BH := Lib.hid (b10Has_any OA l oc (zns L) (k : Int) wr (HO.out.below hb))
    have AE : (zns L).any (· == (k : Int)) = L.contains k := by
      rw [Bool.eq_iff_iff, List.any_eq_true, List.contains_iff_mem]
      constructor
      · rintro ⟨z, hz, h1⟩
        obtain ⟨y, hy, rfl⟩ := List.mem_map.1 hz
        have h2 : (y : Int) = (k : Int) := by simpa using h1
        have h3 : y = k := by omega
        exact h3 ▸ hy
      · intro hm
        exact ⟨_, List.mem_map.2 ⟨k, hm, rfl⟩, by simp⟩
    rw [AE] at BH
    clear hown hb hq hq2 AE O1 BL
    by_cases hlt : k < m
    · have d0 := decide_eq_true (show (k : Int) < (m : Int) by omega)
      cases hc : L.contains k
      · rw [hc] at BH
        have NX := Lib.hid (srtN_no hc)
        clear hc
        go_wp2_with fail
        refine BH.out.mono ?_
        rintro r w1 ⟨rfl, rfl⟩
        go_wp2_with fail
        go_roundw
        case rel => exact ⟨k + 1, q, O, c, by omega, rfl, by go_num, by rw [NX.out]; exact OI.out, BI.out⟩
        case measure => simp [intOf]; omega
      · rw [hc] at BH
        have NX := Lib.hid (srtN_yes hc)
        clear hc
        go_wp2_with fail
        refine BH.out.mono ?_
        rintro r w1 ⟨rfl, rfl⟩
        go_wp2_with (at_builtin; refine app_int wr rfl _ _ rfl w.heap.size O q c _ rfl OI.out (k : Int) (by omega) (by omega) rfl (by omega) bsz ?_; intro A' c' w3 p1 p2; have X1 := Lib.hid p1; have X2 := Lib.hid (BI.out.grown p2 BI.out.size (fun x hx => (OI.out.block x hx).1)); clear p1 p2)
        go_roundw
        case rel => exact ⟨k + 1, q + 1, A', c', by omega, rfl, by go_num, by rw [NX.out, zns_snoc]; exact X1.out, X2.out⟩
        case measure => simp [intOf]; omega
    · obtain rfl : m = k := by omega
      have d0 := decide_eq_false (show ¬ (m : Int) < (m : Int) by omega)
      go_wp2_with fail
      go_ret
      exact ⟨O, q, c, rfl, OI.out, BI.out⟩
set_option maxHeartbeats 4000000 in
theorem completed_ok (CA : Option Addr) (m cc : Nat) (AA : Option Addr) (n ac : Nat) (e : El) (w : World) (h : ElW w CA m cc AA n ac e) (ok : EOk e) :
    Calls Try.prog 18 #[.agg #[.int .i64 e.mon, .slice CA m cc, .slice AA n ac]] w fun r w' => (∃ L M O oc, r = .returned (.tuple #[.slice O (L : List Nat).length oc, .int .i64 M, .bool true]) ∧ Cpl e L M ∧ OwnI w' w.heap.size O L.length oc (zns L)) ∧ Below w.heap.size w w' := by
  have hm := h.cl
  have hn := h.al
  have h6 := ok.cs1
  have mon := ok.mon
  have b0 := bel_alloc w (.cells #[.int .i64 e.mon, .slice CA m cc, .slice AA n ac] 27)
  have C0 := (Cs.new w [.int .i64 e.mon, .slice CA m cc, .slice AA n ac] 27)
  have VE := Lib.hid (validEl_ok CA m cc AA n ac e _ (h.below b0) ok)
  have HB0 := Lib.hid b0
  have HC0 := Lib.hid C0
  have H0 := Lib.hid h
  have OK := Lib.hid ok
  have OW := Lib.hid ok.wide
  simp only [List.toArray] at VE HC0
  clear h ok b0 C0
  go_enter Try.func18, Try.ntmps18
  go_wp2_with fail
  refine VE.out.mono ?_
  rintro r w1 ⟨rfl, b1⟩
  have C1 := Lib.hid (HC0.out.below b1)
  have B1 := Lib.hid (bel_trans HB0.out b1)
  have H1 := Lib.hid (H0.out.below B1.out)
  have BA := Lib.hid (bel_alloc w1 (.cells #[] 2))
  have y0 := C1.out.cell 0 rfl
  have y0' := (C1.out.below BA.out).cell 0 rfl
  have O3 := Lib.hid (ownI_lit w1)
  clear b1 VE HB0 HC0 H0
  go_wp2_with fail
  go_region
  have BD := Lib.hid (show Below w1.heap.size w1 (w1.alloc (.cells #[] 2)).drew from below_drewN BA.out 1)
  have O3' := Lib.hid (show OwnI (w1.alloc (.cells #[] 2)).drew w1.heap.size (some ⟨w1.heap.size, 0, none⟩) 0 0 [] from O3.out)
  have y0 := (C1.out.below BD.out).cell 0 rfl
  have LOC := Lib.hid (show w.heap.size < w1.heap.size from C1.out.1)
  clear O3 BA y0'
  go_wp2_with fail
  go_loopw [5, 6, 7] (fun s5 s6 s7 wr => ∃ (L : List Nat) (O : Option Addr) (oc : Nat) (last M : Int), s5 = .slice O L.length oc ∧ s6 = .int .i64 last ∧ s7 = .int .i64 M ∧ CplI e L last M ∧ OwnI wr w1.heap.size O L.length oc (zns L) ∧ Below w1.heap.size w1 wr) (fun _ _ s7 _ => (362 - intOf s7).toNat)
  case atStart => exact ⟨[], _, 0, e.mon, e.mon, rfl, rfl, rfl, CplI.start e mon.2, O3'.out, BD.out⟩
  case round =>
    obtain ⟨L, O, oc, last, M, rfl, rfl, rfl, hI, ho, hb⟩ := hrel
    have CI := Lib.hid hI
    have OI := Lib.hid ho
    have BI := Lib.hid hb
    have M0 := hI.1
    have M1 := hI.2.1
    have CC := Lib.hid (C1.out.below hb)
    have H2 := Lib.hid (H1.out.below hb)
    have y0 := CC.out.cell 0 rfl
    have y1 := CC.out.cell 1 rfl
    have y2 := CC.out.cell 2 rfl
    clear hI ho hb O3' BD
    by_cases hM : M ≤ 360
    · have d0 := decide_eq_true hM
      have b3 := bel_alloc wr (.cells #[.int .i64 M, .slice CA m cc, .slice AA n ac] 27)
      have CX := Lib.hid (Cs.new wr [.int .i64 M, .slice CA m cc, .slice AA n ac] 27)
      have EQ0 := equal_ok CA m cc AA n ac (withM e M) _ (withM_W (H2.out.below b3) M) (withM_ok OW.out (by omega) hM)
      rw [show (withM e M).mon = M from rfl] at EQ0
      have EQ := Lib.hid EQ0
      have C3 := Lib.hid (CC.out.below b3)
      have B3 := Lib.hid (bel_trans BI.out b3)
      have O4 := Lib.hid (OI.out.below b3)
      have z3 := b3.size
      simp only [List.toArray] at CX EQ C3 B3 O4 z3
      have x0 := CX.out.cell 0 rfl
      have x1 := CX.out.cell 1 rfl
      have x2 := CX.out.cell 2 rfl
      clear b3 CX y0 OI BI CC EQ0
      go_wp2_with fail
      refine EQ.out.mono ?_
      rintro r w4 ⟨⟨L', O', oc', rfl, hf, ho'⟩, b4⟩
      have HF := Lib.hid hf
      have EK := Lib.hid (hf.1.keep (withM_ok OW.out (by omega) hM))
      have O5 := Lib.hid (ho'.mono (b2 := w1.heap.size) B3.out.size)
      have C5 := Lib.hid (C3.out.below b4)
      have B5 := Lib.hid (bel_trans B3.out b4)
      have O6 := Lib.hid (O4.out.below b4)
      have LL := (EK.out.len (withM_ok OW.out (by omega) hM)).2
      have CO := Lib.hid (fun W (hW : Below w4.heap.size w4 W) => cost_ok e.mon CA m cc AA n ac e L' O' oc' W (H1.out.below (bel_trans B5.out hW)) OW.out (fun x hx => by rw [← hm]; exact EK.out.lt x hx) LL (O5.out.ints.below hW))
      obtain ⟨q, hq⟩ : ∃ z, costL e.cs L' = z := ⟨_, rfl⟩
      rw [hq] at CO
      have HQ := Lib.hid hq
      have SS := Lib.hid (fun W (hW : Below w4.heap.size w4 W) => (show Below w4.heap.size w4 W ∧ W.cell? ⟨w.heap.size, 0, none⟩ = some (.int .i64 e.mon) ∧ W.cell? ⟨w.heap.size, 1, none⟩ = some (.slice CA m cc) ∧ W.cell? ⟨w.heap.size, 2, none⟩ = some (.slice AA n ac) from
        ⟨hW, (C5.out.below hW).cell 0 rfl, (C5.out.below hW).cell 1 rfl, (C5.out.below hW).cell 2 rfl⟩))
      clear hf ho' b4 hq x0 x1 x2 C3 B3 O4 y1 y2
      by_cases hle : q ≤ e.mon
      · have dq := decide_eq_false (show ¬ e.mon < q by omega)
        have NX := Lib.hid (CI.out.next hM HF.out (by rw [HQ.out]; exact hle))
        go_wp2_with fail
        refine wp_region_noPanic ?_
        refine wp_region_R (inFirst (fun W => Below w4.heap.size w4 W ∧ W.cell? ⟨w.heap.size, 0, none⟩ = some (.int .i64 e.mon) ∧ W.cell? ⟨w.heap.size, 1, none⟩ = some (.slice CA m cc) ∧ W.cell? ⟨w.heap.size, 2, none⟩ = some (.slice AA n ac)) 6) (by kernel_rfl) ?_
        have hS := SS.out w4.drew ⟨rfl, rfl, rfl, Nat.le_refl _, fun _ _ => rfl⟩
        refine anyR_take (i := 0) (.agg #[.int .i64 e.mon, .slice CA m cc, .slice AA n ac]) rfl (by kernel_rfl) (by kernel_rfl) (by kernel_rfl) (by kernel_rfl) (fun _ _ _ h => h) (by assumption) ⟨by rfl, ?_⟩ ?_
        · intro W hW
          go_simp
        try simp only [Act.put, List.setIfInBounds_toArray, List.set_cons_zero, List.set_cons_succ, List.getElem_toArray, List.getElem_cons_zero, List.getElem_cons_succ]
        refine anyR_take (i := 1) (.slice O' L'.length oc') rfl (by kernel_rfl) (by kernel_rfl) (by kernel_rfl) (by kernel_rfl) (fun _ _ _ h => h) (by assumption) ⟨by rfl, ?_⟩ ?_
        · intro W hW
          go_simp
        try simp only [Act.put, List.setIfInBounds_toArray, List.set_cons_zero, List.set_cons_succ, List.getElem_toArray, List.getElem_cons_zero, List.getElem_cons_succ]
        refine anyR_take (i := 3) (.pointer (some ⟨w.heap.size, 0, none⟩)) rfl (by kernel_rfl) (by kernel_rfl) (by kernel_rfl) (by kernel_rfl) (fun _ _ _ h => h) (by assumption) ⟨by rfl, ?_⟩ ?_
        · intro W hW
          go_simp
        try simp only [Act.put, List.setIfInBounds_toArray, List.set_cons_zero, List.set_cons_succ, List.getElem_toArray, List.getElem_cons_zero, List.getElem_cons_succ]
        refine anyR_take (i := 4) (.int .i64 e.mon) rfl (by kernel_rfl) (by kernel_rfl) (by kernel_rfl) (by kernel_rfl) (fun _ _ _ h => h) (by assumption) ⟨by rfl, ?_⟩ ?_
        · intro W hW
          go_simp
        try simp only [Act.put, List.setIfInBounds_toArray, List.set_cons_zero, List.set_cons_succ, List.getElem_toArray, List.getElem_cons_zero, List.getElem_cons_succ]
        refine anyR_one (i := 2) (by kernel_rfl) rfl ?_
        intro K hK
        go_simp
        go_at_call 41
        refine (CO.out _ hS.1).mono ?_
        rintro _ w9 ⟨rfl, b9⟩
        have hT := SS.out w9 (bel_trans hS.1 b9)
        refine hK.out _ _ (fun _ => hT) ?_
        clear hS b9
        have hS := hT
        clear hT
        clear hK K
        try simp only [Act.put, List.setIfInBounds_toArray, List.set_cons_zero, List.set_cons_succ, List.getElem_toArray, List.getElem_cons_zero, List.getElem_cons_succ]
        refine anyR_take (i := 5) (.bool false) rfl (by kernel_rfl) (by kernel_rfl) (by kernel_rfl) (by kernel_rfl) (fun _ _ _ h => h) (by assumption) ⟨by rfl, ?_⟩ ?_
        · intro W hW
          go_simp
        try simp only [Act.put, List.setIfInBounds_toArray, List.set_cons_zero, List.set_cons_succ, List.getElem_toArray, List.getElem_cons_zero, List.getElem_cons_succ]
        refine anyR_done (by kernel_rfl) ?_ _
        refine NoPanic.normal ?_
        have BU := Lib.hid hS.1
        clear hS SS
        have B9 := Lib.hid (bel_trans B5.out BU.out)
        have O9 := Lib.hid (O5.out.below BU.out)
        clear BU
        go_wp2_with fail
        go_roundw
        case rel => exact ⟨L', O', oc', M, M + 1, rfl, rfl, by first | rfl | (congr 1), NX.out, O9.out, B9.out⟩
        case measure => simp [intOf]; omega
      · have dq := decide_eq_true (show e.mon < q by omega)
        have NX := Lib.hid (CI.out.stop OW.out hM HF.out (by rw [HQ.out]; exact hle))
        go_wp2_with fail
        refine wp_region_noPanic ?_
        refine wp_region_R (inFirst (fun W => Below w4.heap.size w4 W ∧ W.cell? ⟨w.heap.size, 0, none⟩ = some (.int .i64 e.mon) ∧ W.cell? ⟨w.heap.size, 1, none⟩ = some (.slice CA m cc) ∧ W.cell? ⟨w.heap.size, 2, none⟩ = some (.slice AA n ac)) 6) (by kernel_rfl) ?_
        have hS := SS.out w4.drew ⟨rfl, rfl, rfl, Nat.le_refl _, fun _ _ => rfl⟩
        refine anyR_take (i := 0) (.agg #[.int .i64 e.mon, .slice CA m cc, .slice AA n ac]) rfl (by kernel_rfl) (by kernel_rfl) (by kernel_rfl) (by kernel_rfl) (fun _ _ _ h => h) (by assumption) ⟨by rfl, ?_⟩ ?_
        · intro W hW
          go_simp
        try simp only [Act.put, List.setIfInBounds_toArray, List.set_cons_zero, List.set_cons_succ, List.getElem_toArray, List.getElem_cons_zero, List.getElem_cons_succ]
        refine anyR_take (i := 1) (.slice O' L'.length oc') rfl (by kernel_rfl) (by kernel_rfl) (by kernel_rfl) (by kernel_rfl) (fun _ _ _ h => h) (by assumption) ⟨by rfl, ?_⟩ ?_
        · intro W hW
          go_simp
        try simp only [Act.put, List.setIfInBounds_toArray, List.set_cons_zero, List.set_cons_succ, List.getElem_toArray, List.getElem_cons_zero, List.getElem_cons_succ]
        refine anyR_take (i := 3) (.pointer (some ⟨w.heap.size, 0, none⟩)) rfl (by kernel_rfl) (by kernel_rfl) (by kernel_rfl) (by kernel_rfl) (fun _ _ _ h => h) (by assumption) ⟨by rfl, ?_⟩ ?_
        · intro W hW
          go_simp
        try simp only [Act.put, List.setIfInBounds_toArray, List.set_cons_zero, List.set_cons_succ, List.getElem_toArray, List.getElem_cons_zero, List.getElem_cons_succ]
        refine anyR_take (i := 4) (.int .i64 e.mon) rfl (by kernel_rfl) (by kernel_rfl) (by kernel_rfl) (by kernel_rfl) (fun _ _ _ h => h) (by assumption) ⟨by rfl, ?_⟩ ?_
        · intro W hW
          go_simp
        try simp only [Act.put, List.setIfInBounds_toArray, List.set_cons_zero, List.set_cons_succ, List.getElem_toArray, List.getElem_cons_zero, List.getElem_cons_succ]
        refine anyR_one (i := 2) (by kernel_rfl) rfl ?_
        intro K hK
        go_simp
        go_at_call 41
        refine (CO.out _ hS.1).mono ?_
        rintro _ w9 ⟨rfl, b9⟩
        have hT := SS.out w9 (bel_trans hS.1 b9)
        refine hK.out _ _ (fun _ => hT) ?_
        clear hS b9
        have hS := hT
        clear hT
        clear hK K
        try simp only [Act.put, List.setIfInBounds_toArray, List.set_cons_zero, List.set_cons_succ, List.getElem_toArray, List.getElem_cons_zero, List.getElem_cons_succ]
        refine anyR_take (i := 5) (.bool true) rfl (by kernel_rfl) (by kernel_rfl) (by kernel_rfl) (by kernel_rfl) (fun _ _ _ h => h) (by assumption) ⟨by rfl, ?_⟩ ?_
        · intro W hW
          go_simp
        try simp only [Act.put, List.setIfInBounds_toArray, List.set_cons_zero, List.set_cons_succ, List.getElem_toArray, List.getElem_cons_zero, List.getElem_cons_succ]
        refine anyR_done (by kernel_rfl) ?_ _
        refine NoPanic.normal ?_
        have BU := Lib.hid hS.1
        clear hS SS
        have B9 := Lib.hid (bel_trans B1.out (bel_trans B5.out BU.out))
        have O9 := Lib.hid ((O6.out.below BU.out).mono (b2 := w.heap.size) (Nat.le_of_lt LOC.out))
        clear BU
        go_wp2_with fail
        exact bodyPost_ret (v := .tuple #[.slice O L.length oc, .int .i64 last, .bool true]) (by simp [results, Try.results18, go_sem]) rfl ⟨⟨L, last, O, oc, rfl, NX.out, O9.out⟩, B9.out⟩
    · have d0 := decide_eq_false hM
      have NX := Lib.hid (CI.out.full hM mon.2)
      have B9 := Lib.hid (bel_trans B1.out BI.out)
      have O9 := Lib.hid (OI.out.mono (b2 := w.heap.size) (Nat.le_of_lt LOC.out))
      go_wp2_with fail
      exact bodyPost_ret (v := .tuple #[.slice O L.length oc, .int .i64 last, .bool true]) (by simp [results, Try.results18, go_sem]) rfl ⟨⟨L, last, O, oc, rfl, NX.out, O9.out⟩, B9.out⟩
end Go.Proofs.Ytiodbjfchfmlcaa
