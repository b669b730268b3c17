/- EqualShares, ShareOf, PursesAfter, PriceAfter, walked. -/
import Derived.Test.YtiodbjfchfmlcaaPraM
namespace Go.Proofs.Ytiodbjfchfmlcaa
set_option linter.unusedVariables false
set_option linter.unusedSimpArgs false
set_option maxRecDepth 100000
open Go.RowKit Go.Deep
theorem equalShares_ok (CA : Option Addr) (m cc : Nat) (AA : Option Addr) (n ac : Nat) (e : El) (w : World) (h : ElW w CA m cc AA n ac e) (ok : EOk e) :
    Calls Try.prog 8 #[.agg #[.int .i64 e.mon, .slice CA m cc, .slice AA n ac]] w fun r w' => (∃ L O oc, r = .returned (.tuple #[.slice O (L : List Nat).length oc, .bool true]) ∧ EqFin e L ∧ OwnI w' w.heap.size O L.length oc (zns L)) ∧ Below w.heap.size w w' := by
  have b0 := bel_alloc w (.cells #[.int .i64 e.mon, .slice CA m cc, .slice AA n ac] 27)
  have C0 := (Cs.new w [.int .i64 e.mon, .slice CA m cc, .slice AA n ac] 27)
  have VE := Lib.hid (validEl_ok CA m cc AA n ac e _ (h.below b0) ok)
  have HB0 := Lib.hid b0
  have HC0 := Lib.hid C0
  have OK := Lib.hid ok.wide
  have H0 := Lib.hid h
  simp only [List.toArray] at VE HC0
  clear h ok b0 C0
  go_enter Try.func8, Try.ntmps8
  go_wp2_with fail
  refine VE.out.mono ?_
  rintro r w1 ⟨rfl, b1⟩
  have C1 := HC0.out.below b1
  have y0 := C1.cell 0 rfl
  have y1 := C1.cell 1 rfl
  have y2 := C1.cell 2 rfl
  have B1 := Lib.hid (bel_trans HB0.out b1)
  have EQ := Lib.hid (equal_ok CA m cc AA n ac e w1 (H0.out.below B1.out) OK.out)
  clear b1 C1 VE
  go_wp2_with fail
  refine EQ.out.mono ?_
  rintro r w2 ⟨⟨L, O, oc, rfl, hf, ho⟩, b2⟩
  have HF := Lib.hid hf
  have HO := Lib.hid (ho.mono B1.out.size)
  have B2 := Lib.hid (bel_trans B1.out b2)
  clear hf ho b2 y0 y1 y2
  go_wp2_with fail
  exact bodyPost_ret (v := .tuple #[.slice O L.length oc, .bool true]) (by simp [results, Try.results8, go_sem]) rfl ⟨⟨L, O, oc, rfl, HF.out, HO.out⟩, B2.out⟩
theorem shareOf_ok (CA : Option Addr) (m cc : Nat) (AA : Option Addr) (n ac : Nat) (e : El) (w : World) (h : ElW w CA m cc AA n ac e) (ok : EOk e) :
    Calls Try.prog 12 #[.agg #[.int .i64 e.mon, .slice CA m cc, .slice AA n ac]] w fun r w' => r = .returned (.tuple #[FV e.mon n, .bool true]) ∧ Below w.heap.size w w' := by
  have hn := h.al
  have a6 := ok.ap1
  have mon := ok.mon
  have SH0 := fun W => share_ok CA m cc AA n ac e.mon W mon.1 (by omega) (by omega) (by omega)
  unfold FV at SH0 ⊢
  obtain ⟨N, hN⟩ : ∃ z, redN e.mon (n : Int) = z := ⟨_, rfl⟩
  obtain ⟨M, hM⟩ : ∃ z, redD e.mon (n : Int) = z := ⟨_, rfl⟩
  rw [hN, hM] at SH0 ⊢
  have SH := Lib.hid SH0
  have b0 := bel_alloc w (.cells #[.int .i64 e.mon, .slice CA m cc, .slice AA n ac] 27)
  have bf := bel_alloc (w.alloc (.cells #[.int .i64 e.mon, .slice CA m cc, .slice AA n ac] 27)) (.cells #[.int .i64 0, .int .i64 0] 32)
  have C0 := (Cs.new w [.int .i64 e.mon, .slice CA m cc, .slice AA n ac] 27).below bf
  have R0 := BO.new 32 (w.alloc (.cells #[.int .i64 e.mon, .slice CA m cc, .slice AA n ac] 27)) (.int .i64 0) (.int .i64 0)
  rw [show (w.alloc (.cells #[.int .i64 e.mon, .slice CA m cc, .slice AA n ac] 27)).heap.size = w.heap.size + 1 by simp] at R0
  have VE := Lib.hid (validEl_ok CA m cc AA n ac e _ (h.below (bel_trans b0 bf)) ok)
  have HB0 := Lib.hid (bel_trans b0 bf)
  have HC0 := Lib.hid C0
  have HR0 := Lib.hid R0
  simp only [List.toArray] at VE HC0
  clear h ok b0 bf C0 R0 SH0 hN hM
  go_enter Try.func12, Try.ntmps12
  go_wp2_with fail
  refine VE.out.mono ?_
  rintro r w1 ⟨rfl, b1⟩
  have C1 := HC0.out.below b1
  have R1 := Lib.hid (HR0.out.below b1)
  have y0 := C1.cell 0 rfl
  have y1 := C1.cell 1 rfl
  have y2 := C1.cell 2 rfl
  have B1 := Lib.hid (bel_trans HB0.out b1)
  clear b1 C1 VE
  go_wp2_with fail
  refine (SH.out _).mono ?_
  rintro r w2 ⟨rfl, b2⟩
  have R2 := R1.out.below b2
  have B2 := Lib.hid (bel_trans B1.out b2)
  have r0 := R2.cells.1
  have r1 := R2.cells.2
  have f0 := R2.free 0
  have f1 := R2.free 1
  have ST := Lib.hid (show ((w2.setCell ⟨w.heap.size + 1, 0, none⟩ (.int .i64 N)).setCell ⟨w.heap.size + 1, 1, none⟩ (.int .i64 M)).cell? ⟨w.heap.size + 1, 0, none⟩ = some (.int .i64 N) ∧ ((w2.setCell ⟨w.heap.size + 1, 0, none⟩ (.int .i64 N)).setCell ⟨w.heap.size + 1, 1, none⟩ (.int .i64 M)).cell? ⟨w.heap.size + 1, 1, none⟩ = some (.int .i64 M) from by
    obtain ⟨p1, _⟩ := R2.set0 (.int .i64 N)
    obtain ⟨p2, _⟩ := p1.set1 (.int .i64 M)
    exact p2.cells)
  clear b2 R2 y0 y1 y2
  go_wp2_with fail
  have t0 := ST.out.1
  have t1 := ST.out.2
  exact bodyPost_ret (v := .tuple #[.agg #[.int .i64 N, .int .i64 M], .bool true]) (by simp [results, Try.results12, go_sem, t0, t1]) rfl ⟨rfl, (B2.out.setCell (by show w.heap.size ≤ w.heap.size + 1; omega) _).setCell (by show w.heap.size ≤ w.heap.size + 1; omega) _⟩
theorem isOrder_ok (CA : Option Addr) (m cc : Nat) (AA : Option Addr) (n ac : Nat) (e : El) (L : List Nat) (OA : Option Addr) (oc : Nat) (w : World) (h : ElW w CA m cc AA n ac e) (ok : EOk e) (hL : ∀ x ∈ L, x < m) (hnd : L.Nodup) (hl : L.length ≤ 6) (ho : Ints .i64 w OA L.length oc (zns L)) :
    Calls Try.prog 51 #[.agg #[.int .i64 e.mon, .slice CA m cc, .slice AA n ac], .slice OA L.length oc] w fun r w' => r = .returned (.bool true) ∧ Below w.heap.size w w' := by
  have hm := h.cl
  have h6 := ok.cs1
  have m6 : m ≤ 6 := by omega
  have m1 : 1 ≤ m := by omega
  have b0 := bel_alloc w (.cells #[.int .i64 e.mon, .slice CA m cc, .slice AA n ac] 27)
  have C0 := (Cs.new w [.int .i64 e.mon, .slice CA m cc, .slice AA n ac] 27)
  have VE := Lib.hid (validEl_ok CA m cc AA n ac e _ (h.below b0) ok)
  have HB0 := Lib.hid b0
  have HC0 := Lib.hid C0
  have O1 := Lib.hid (ho.below b0)
  have HL := Lib.hid hL
  have ND := Lib.hid hnd
  have W1 : IntKind.i64.wrap ((m : Int) - 1) = (m : Int) - 1 := IntWalk.i64_in _ (by omega)
  simp only [List.toArray] at VE HC0
  have y0 := HC0.out.cell 0 rfl
  have y1 := HC0.out.cell 1 rfl
  have y2 := HC0.out.cell 2 rfl
  clear h ok b0 C0 hL hnd ho
  go_enter Try.func51, Try.ntmps51
  go_wp2_with fail
  go_loop [9] (fun i => ∃ k : Nat, k ≤ L.length ∧ i = .int .i64 k) (fun i => L.length - (intOf i).toNat)
  case atStart => exact ⟨0, Nat.zero_le _, rfl⟩
  case round =>
    obtain ⟨k, hk, rfl⟩ := hrel
    by_cases hlt : k < L.length
    · have d0 := decide_eq_true (show (k : Int) < (L.length : Int) by omega)
      obtain ⟨x, hx⟩ : ∃ x, L[k]? = some x := ⟨_, List.getElem?_eq_getElem hlt⟩
      have xm := HL.out x (List.mem_of_getElem? hx)
      obtain ⟨bO, oO, rfl, hbO, cO⟩ := ints_get' O1.out (zns_at hx)
      have i1 := Lib.hid (show inR (x : Int) 0 ((m : Int) - 1) = true from inR_true.2 (by omega))
      have PF : (zns L).take k = zns (L.take k) := by unfold zns; rw [List.map_take]
      have NI : (L.take k).contains x = false := by
        rw [Bool.eq_false_iff]
        intro hc
        obtain ⟨j, hj⟩ := List.mem_iff_getElem?.1 (List.contains_iff_mem.1 hc)
        have hjk : j < k := by
          have := (List.getElem?_eq_some_iff.1 hj).1
          rw [List.length_take] at this
          omega
        rw [List.getElem?_take_of_lt hjk] at hj
        obtain ⟨a1, a2⟩ := List.getElem?_eq_some_iff.1 hj
        obtain ⟨b1, b2⟩ := List.getElem?_eq_some_iff.1 hx
        exact (List.pairwise_iff_getElem.1 ND.out) j k a1 b1 hjk (by rw [a2, b2])
      have HC := has_any (some ⟨bO, oO, none⟩) k oc ((zns L).take k) (x : Int) _ (O1.out.front (by omega))
      rw [PF, zns_has, NI] at HC
      have HCH := Lib.hid HC
      have k0 : (0 : Int) ≤ (k : Int) := by omega
      have k1 : (k : Int) < (L.length : Int) := by omega
      have kc : (k : Int) ≤ (oc : Int) := by have := O1.out.2.1; omega
      have kc' : k ≤ oc := by omega
      have nf : (!true) = false := rfl
      clear hx PF NI HC
      go_wp2_with fail
      refine (within_val i1.out _).mono ?_
      rintro r w1 ⟨rfl, rfl⟩
      go_wp2_with fail
      refine HCH.out.mono ?_
      rintro r w1 ⟨rfl, rfl⟩
      go_wp2_with fail
      go_round
      case rel => exact ⟨k + 1, by omega, by go_num⟩
      case measure => simp [intOf]; omega
    · obtain rfl : L.length = k := by omega
      have d0 := decide_eq_false (show ¬ (L.length : Int) < (L.length : Int) by omega)
      go_wp2_with fail
      refine VE.out.mono ?_
      rintro r w1 ⟨rfl, b1⟩
      have B1 := Lib.hid (bel_trans HB0.out b1)
      go_wp2_with fail
      go_ret
      exact ⟨rfl, B1.out⟩
theorem pursesAfter_ok (CA : Option Addr) (m cc : Nat) (AA : Option Addr) (n ac : Nat) (e : El) (L : List Nat) (OA : Option Addr) (oc : Nat) (D : Int) (P : List Int) (w : World) (h : ElW w CA m cc AA n ac e) (ok : EOk e) (hL : ∀ x ∈ L, x < m) (hnd : L.Nodup) (hl : L.length ≤ 6) (ho : Ints .i64 w OA L.length oc (zns L)) (hb : bgt e L = some (D, P)) :
    Calls Try.prog 26 #[.agg #[.int .i64 e.mon, .slice CA m cc, .slice AA n ac], .slice OA L.length oc] w fun r w' => (∃ g c, r = .returned (.tuple #[.slice (some ⟨g, 0, none⟩) n c, .bool true]) ∧ FrsO w' w.heap.size (some ⟨g, 0, none⟩) n c D P) ∧ Below w.heap.size w w' := by
  have b0 := bel_alloc w (.cells #[.int .i64 e.mon, .slice CA m cc, .slice AA n ac] 27)
  have C0 := (Cs.new w [.int .i64 e.mon, .slice CA m cc, .slice AA n ac] 27)
  have IO := Lib.hid (isOrder_ok CA m cc AA n ac e L OA oc _ (h.below b0) ok hL hnd hl (ho.below b0))
  have HB0 := Lib.hid b0
  have HC0 := Lib.hid C0
  have BG := Lib.hid (fun W (hW : Below w.heap.size w W) => bought_ok CA m cc AA n ac e L OA oc D P W (h.below hW) ok.wide hL hl (ho.below hW) hb)
  simp only [List.toArray] at IO HC0
  clear h ok b0 C0 hL hnd ho hb
  go_enter Try.func26, Try.ntmps26
  go_wp2_with fail
  refine IO.out.mono ?_
  rintro r w1 ⟨rfl, b1⟩
  have C1 := HC0.out.below b1
  have y0 := C1.cell 0 rfl
  have y1 := C1.cell 1 rfl
  have y2 := C1.cell 2 rfl
  have B1 := Lib.hid (bel_trans HB0.out b1)
  clear b1 C1 IO
  go_wp2_with fail
  refine (BG.out _ B1.out).mono ?_
  rintro r w2 ⟨⟨g, c, Q, k, d, rfl, hf⟩, b2⟩
  have HF := Lib.hid (OwnR.mono (b2 := w.heap.size) hf B1.out.size)
  have B2 := Lib.hid (bel_trans B1.out b2)
  clear hf b2 y0 y1 y2
  go_wp2_with fail
  exact bodyPost_ret (v := .tuple #[.slice (some ⟨g, 0, none⟩) n c, .bool true]) (by simp [results, Try.results26, go_sem]) rfl ⟨⟨g, c, rfl, HF.out⟩, B2.out⟩
theorem prV_form (D : Int) (o : Option (Int × Nat)) : ∃ (u v : Int) (b : Bool), prV D o = .tuple #[.agg #[.int .i64 u, .int .i64 v], .bool b] := by
  cases o with
  | none => exact ⟨0, 0, false, rfl⟩
  | some q => obtain ⟨r, m⟩ := q; exact ⟨_, _, true, rfl⟩
theorem priceAfter_ok (CA : Option Addr) (m cc : Nat) (AA : Option Addr) (n ac : Nat) (e : El) (L : List Nat) (OA : Option Addr) (oc : Nat) (D : Int) (P : List Int) (cst : Int) (p : Nat) (w : World) (h : ElW w CA m cc AA n ac e) (ok : EOk e) (hL : ∀ x ∈ L, x < m) (hnd : L.Nodup) (hl : L.length ≤ 6) (ho : Ints .i64 w OA L.length oc (zns L)) (hb : bgt e L = some (D, P)) (st : StOk e L.length cst (D, P)) (hp : p < m) :
    Calls Try.prog 9 #[.agg #[.int .i64 e.mon, .slice CA m cc, .slice AA n ac], .slice OA L.length oc, .int .i64 p] w fun r w' => r = .returned (prV D (if p ∈ L then none else priceS e.cs e.ap (D, P) p)) ∧ Below w.heap.size w w' := by
  have b0 := bel_alloc w (.cells #[.int .i64 e.mon, .slice CA m cc, .slice AA n ac] 27)
  have bf := bel_alloc (w.alloc (.cells #[.int .i64 e.mon, .slice CA m cc, .slice AA n ac] 27)) (.cells #[.int .i64 0, .int .i64 0] 32)
  have C0 := (Cs.new w [.int .i64 e.mon, .slice CA m cc, .slice AA n ac] 27).below bf
  have R0 := BO.new 32 (w.alloc (.cells #[.int .i64 e.mon, .slice CA m cc, .slice AA n ac] 27)) (.int .i64 0) (.int .i64 0)
  rw [show (w.alloc (.cells #[.int .i64 e.mon, .slice CA m cc, .slice AA n ac] 27)).heap.size = w.heap.size + 1 by simp] at R0
  have PA := Lib.hid (pursesAfter_ok CA m cc AA n ac e L OA oc D P _ (h.below (bel_trans b0 bf)) ok hL hnd hl (ho.below (bel_trans b0 bf)) hb)
  have HB0 := Lib.hid (bel_trans b0 bf)
  have HC0 := Lib.hid C0
  have HR0 := Lib.hid R0
  have H0 := Lib.hid h
  have IP := Lib.hid (fun W (hW : Below w.heap.size w W) => isProject_ok CA m cc AA n ac e p W (h.below hW) ok ⟨by omega, by omega⟩)
  have HC := Lib.hid (fun W (hW : Below w.heap.size w W) => has_any OA L.length oc (zns L) p W (ho.below hW))
  have PR := Lib.hid (fun W (hW : Below w.heap.size w W) (g c : Nat) (hf : FrsR W (some ⟨g, 0, none⟩) n c D P) => price_ok CA m cc AA n ac e p (some ⟨g, 0, none⟩) c D P L.length cst W (h.below hW) ok.wide hp hl st hf)
  obtain ⟨V, hV⟩ : ∃ o, (if p ∈ L then none else priceS e.cs e.ap (D, P) p) = o := ⟨_, rfl⟩
  rw [hV]
  have HV := Lib.hid hV
  simp only [List.toArray] at PA HC0
  clear h ok hL hnd ho hb st b0 bf C0 R0 hV
  go_enter Try.func9, Try.ntmps9
  go_wp2_with fail
  refine PA.out.mono ?_
  rintro r w1 ⟨⟨g, c, rfl, hf⟩, b1⟩
  have C1 := Lib.hid (HC0.out.below b1)
  have R1 := Lib.hid (HR0.out.below b1)
  have B1 := Lib.hid (bel_trans HB0.out b1)
  have F1 := Lib.hid hf
  have y0 := C1.out.cell 0 rfl
  have y1 := C1.out.cell 1 rfl
  have y2 := C1.out.cell 2 rfl
  have nf : (!true) = false := rfl
  clear hf b1 HB0 HC0 HR0
  go_wp2_with fail
  refine (IP.out _ B1.out).mono ?_
  rintro r w2 ⟨rfl, b2⟩
  have C2 := Lib.hid (C1.out.below b2)
  have R2 := Lib.hid (R1.out.below b2)
  have B2 := Lib.hid (bel_trans B1.out b2)
  have F2 := Lib.hid (F1.out.below b2)
  have y0 := C2.out.cell 0 rfl
  have y1 := C2.out.cell 1 rfl
  have y2 := C2.out.cell 2 rfl
  have HC2 := HC.out w2 B2.out
  rw [zns_has] at HC2
  clear b2 C1 R1 B1 F1 HC
  by_cases hin : p ∈ L
  · have HVN := Lib.hid (show V = none by rw [← HV.out, if_pos hin])
    rw [List.contains_iff_mem.2 hin] at HC2
    have HH := Lib.hid HC2
    have r0 := R2.out.cells.1
    have r1 := R2.out.cells.2
    have f0 := R2.out.free 0
    have f1 := R2.out.free 1
    have ST := Lib.hid (show ((w2.setCell ⟨w.heap.size + 1, 0, none⟩ (.int .i64 0)).setCell ⟨w.heap.size + 1, 1, none⟩ (.int .i64 0)).cell? ⟨w.heap.size + 1, 0, none⟩ = some (.int .i64 0) ∧ ((w2.setCell ⟨w.heap.size + 1, 0, none⟩ (.int .i64 0)).setCell ⟨w.heap.size + 1, 1, none⟩ (.int .i64 0)).cell? ⟨w.heap.size + 1, 1, none⟩ = some (.int .i64 0) from by
      obtain ⟨p1, _⟩ := R2.out.set0 (.int .i64 0)
      obtain ⟨p2, _⟩ := p1.set1 (.int .i64 0)
      exact p2.cells)
    clear HC2 hin PR
    go_wp2_with fail
    refine HH.out.mono ?_
    rintro r w3 ⟨rfl, rfl⟩
    go_wp2_with fail
    have t0 := ST.out.1
    have t1 := ST.out.2
    exact bodyPost_ret (v := .tuple #[.agg #[.int .i64 0, .int .i64 0], .bool false]) (by simp [results, Try.results9, go_sem, t0, t1]) rfl ⟨by rw [HVN.out]; rfl, (B2.out.setCell (by show w.heap.size ≤ w.heap.size + 1; omega) _).setCell (by show w.heap.size ≤ w.heap.size + 1; omega) _⟩
  · have hVp : V = priceS e.cs e.ap (D, P) p := by rw [← HV.out, if_neg hin]
    rw [show L.contains p = false by rw [Bool.eq_false_iff]; exact fun hc => hin (List.contains_iff_mem.1 hc)] at HC2
    have HH := Lib.hid HC2
    obtain ⟨u, v, bb, hV⟩ := prV_form D V
    have PR2 := PR.out w2 B2.out g c F2.out.read
    rw [← hVp, hV] at PR2
    have PRH := Lib.hid PR2
    have HVV := Lib.hid hV
    clear HC2 hin hV PR2 PR hVp
    go_wp2_with fail
    refine HH.out.mono ?_
    rintro r w3 ⟨rfl, rfl⟩
    go_wp2_with fail
    refine PRH.out.mono ?_
    rintro r w3 ⟨rfl, b3⟩
    have R3 := R2.out.below b3
    have B3 := Lib.hid (bel_trans B2.out b3)
    have r0 := R3.cells.1
    have r1 := R3.cells.2
    have f0 := R3.free 0
    have f1 := R3.free 1
    have ST := Lib.hid (show ((w3.setCell ⟨w.heap.size + 1, 0, none⟩ (.int .i64 u)).setCell ⟨w.heap.size + 1, 1, none⟩ (.int .i64 v)).cell? ⟨w.heap.size + 1, 0, none⟩ = some (.int .i64 u) ∧ ((w3.setCell ⟨w.heap.size + 1, 0, none⟩ (.int .i64 u)).setCell ⟨w.heap.size + 1, 1, none⟩ (.int .i64 v)).cell? ⟨w.heap.size + 1, 1, none⟩ = some (.int .i64 v) from by
      obtain ⟨p1, _⟩ := R3.set0 (.int .i64 u)
      obtain ⟨p2, _⟩ := p1.set1 (.int .i64 v)
      exact p2.cells)
    clear b3 R3
    go_wp2_with fail
    have t0 := ST.out.1
    have t1 := ST.out.2
    exact bodyPost_ret (v := .tuple #[.agg #[.int .i64 u, .int .i64 v], .bool bb]) (by simp [results, Try.results9, go_sem, t0, t1]) rfl ⟨by rw [HVV.out], (B3.out.setCell (by show w.heap.size ≤ w.heap.size + 1; omega) _).setCell (by show w.heap.size ≤ w.heap.size + 1; omega) _⟩
theorem cmpF2_ok {x y D E : Int} (h : Va x D) (k : Va y E) (w : World) :
    Calls Try.prog 10 #[FV x D, FV y E] w fun e w' => e = .returned (.tuple #[.int .i64 (cmpI (x * E) (y * D)), .bool true]) ∧ Below w.heap.size w w' := by
  have V1 := Lib.hid (fun W => valid_ok h W)
  have V2 := Lib.hid (fun W => valid_ok k W)
  have PL := Lib.hid (fun W => compare2_ok h.sm k.sm W)
  unfold FV at V1 V2 PL ⊢
  obtain ⟨a, ha⟩ : ∃ z, redN x D = z := ⟨_, rfl⟩
  obtain ⟨b, hb⟩ : ∃ z, redD x D = z := ⟨_, rfl⟩
  obtain ⟨c, hc⟩ : ∃ z, redN y E = z := ⟨_, rfl⟩
  obtain ⟨d, hd⟩ : ∃ z, redD y E = z := ⟨_, rfl⟩
  obtain ⟨N, hN⟩ : ∃ z, cmpI (x * E) (y * D) = z := ⟨_, rfl⟩
  rw [ha, hb] at V1
  rw [hc, hd] at V2
  rw [ha, hb, hc, hd, hN] at PL ⊢
  clear ha hb hc hd hN h k
  have CA := Lib.hid (Cs.new w [.int .i64 a, .int .i64 b] 32)
  have CB := Lib.hid (Cs.new (w.alloc (.cells #[.int .i64 a, .int .i64 b] 32)) [.int .i64 c, .int .i64 d] 32)
  have bb := Lib.hid (bel_trans (bel_alloc w (.cells #[.int .i64 a, .int .i64 b] 32)) (bel_alloc _ (.cells #[.int .i64 c, .int .i64 d] 32)))
  have CA1 := Lib.hid (CA.out.below (bel_alloc _ (.cells #[.int .i64 c, .int .i64 d] 32)))
  obtain ⟨g, hg⟩ : ∃ z, w.heap.size = z := ⟨_, rfl⟩
  have hg1 : (w.alloc (.cells #[.int .i64 a, .int .i64 b] 32)).heap.size = g + 1 := by rw [← hg]; simp
  simp only [List.toArray] at CA1 CB
  rw [hg] at CA1
  rw [hg1] at CB
  clear CA
  go_enter Try.func10, Try.ntmps10
  go_wp2_with fail
  refine (V1.out _).mono ?_
  rintro e w1 ⟨rfl, b1⟩
  have C1 := Lib.hid (CA1.out.below b1)
  have C2 := Lib.hid (CB.out.below b1)
  have B1 := Lib.hid (bel_trans bb.out b1)
  clear b1 V1 CA1 CB bb
  have y0 := C2.out.cell 0 rfl
  have y1 := C2.out.cell 1 rfl
  go_wp2_with fail
  refine (V2.out _).mono ?_
  rintro e w2 ⟨rfl, b2⟩
  have E1 := Lib.hid (C1.out.below b2)
  have E2 := Lib.hid (C2.out.below b2)
  have B2 := Lib.hid (bel_trans B1.out b2)
  clear b2 V2 C1 C2 B1 y0 y1
  have y0 := E1.out.cell 0 rfl
  have y1 := E1.out.cell 1 rfl
  have y2 := E2.out.cell 0 rfl
  have y3 := E2.out.cell 1 rfl
  go_wp2_with fail
  refine (PL.out _).mono ?_
  rintro e w3 ⟨rfl, b3⟩
  have B3 := Lib.hid (bel_trans B2.out b3)
  clear b3 E1 E2 B2 y0 y1 y2 y3
  go_wp2_with fail
  exact bodyPost_ret (v := .tuple #[.int .i64 N, .bool true]) (by simp [results, Try.results10, go_sem]) rfl ⟨rfl, B3.out⟩
end Go.Proofs.Ytiodbjfchfmlcaa
