/- The law FnKemeny, walked. -/
import Derived.Test.YtikcbconfinibaaKemR
import Derived.Test.YtikcbconfinibaaRevLaw
namespace Go.Proofs.Ytikcbconfinibaa
set_option linter.unusedVariables false
set_option linter.unusedSimpArgs false
set_option maxRecDepth 100000
open Go.RowKit Go.Deep
theorem sumW_zip : ∀ (rs : List (List Nat)) (ws : List Int), ws.length = rs.length → sumW (rs.zip ws) = ws.sum
  | [], [], _ => rfl
  | r :: rs, z :: ws, h => by
    rw [List.zip_cons_cons]
    unfold sumW
    rw [sumW_zip rs ws (by simpa using h)]
    simp
  | [], z :: ws, h => by simp at h
  | r :: rs, [], h => by simp at h
theorem kem_all {n : Nat} {rs : List (List Nat)} {ws : List Int} (ok : PrOk n rs ws) {r : List Nat} (hr : r.Perm (List.range n)) :
    2 * (dis (prs (rs.zip ws)) r + dis (prs (rs.zip ws)) r.reverse) = ws.sum * ((n : Int) * ((n : Int) - 1)) ∧
    2 * tot (fun a => tot (prs (rs.zip ws) a) n) n = ws.sum * ((n : Int) * ((n : Int) - 1)) := by
  have hz : ∀ p ∈ rs.zip ws, p.1.Perm (List.range n) := fun p hp => ok.perm p.1 (List.of_mem_zip (a := p.1) (b := p.2) hp).1
  have hb : ∀ a b, a < n → b < n → a ≠ b → prs (rs.zip ws) a b + prs (rs.zip ws) b a = ws.sum := fun a b ha hb e => by
    rw [prs_both ha hb e _ hz, sumW_zip rs ws ok.lw]
  have hl : r.length = n := by have := hr.length_eq; simpa using this
  refine ⟨?_, tot_all n hb (fun a ha => prs_self a _ (fun p hp => (hz p hp).nodup_iff.2 List.nodup_range))⟩
  have := dis_both (P := prs (rs.zip ws)) (W := ws.sum) r (hr.nodup_iff.2 List.nodup_range) (fun a ha b hb' e => hb a b (List.mem_range.1 (hr.mem_iff.1 ha)) (List.mem_range.1 (hr.mem_iff.1 hb')) e)
  rw [hl] at this
  exact this
theorem rev_take {l : List Int} {m : Nat} {z : Int} (h : l[m]? = some z) : l.reverse.take (l.length - m) = l.reverse.take (l.length - (m + 1)) ++ [z] := by
  have hm := (List.getElem?_eq_some_iff.1 h).1
  have e : l.length - m = (l.length - (m + 1)) + 1 := by omega
  rw [e]
  refine take_snoc' ?_
  rw [List.getElem?_reverse (by omega), ← h]
  congr 1
  omega
set_option maxHeartbeats 8000000 in
theorem fnKemeny_walk (w : World) (A : Option Addr) (n c : Nat) (zs : List Int) (h : Ints .u8 w A n c zs) (B : Option Addr) (m d : Nat) (ys : List Int) (k : Ints .u8 w B m d ys) :
    Calls Try.prog 5 #[.slice A n c, .slice B m d] w fun e w' => e = .returned (.bool true) ∧ Below w.heap.size w w' := by
  have hn := h.short
  have hm := k.short
  by_cases h1 : (decide ((48 : Int) < n) || decide ((48 : Int) < m)) = true
  · have H1 := Lib.hid h1
    clear h1
    go_enter Try.func5, Try.ntmps5
    go_wp2_with fail
    refine (r8Long_any A n c B m d _ hn hm).mono ?_
    rintro e w1 ⟨rfl, rfl⟩
    rw [H1.out]
    go_wp2_with fail
    go_ret
    exact ⟨rfl, Below.refl _ _⟩
  · have H1 : Hid ((decide ((48 : Int) < n) || decide ((48 : Int) < m)) = false) := by show _ = _; simpa using h1
    clear h1
    go_enter Try.func5, Try.ntmps5
    go_wp2_with fail
    refine (r8Long_any A n c B m d _ hn hm).mono ?_
    rintro e w1 ⟨rfl, rfl⟩
    rw [H1.out]
    go_wp2_with fail
    refine (R8Profile_any A n c zs _ h).mono ?_
    rintro e w1 ⟨N, rs, ws, RA, rc, WA, wc, rfl, ok, hV, b1⟩
    have n1 := ok.n1
    have n6 := ok.n6
    have m1 := ok.m1
    have m12 := ok.m12
    have OK := Lib.hid ok
    have ba := bel_alloc w1 (.cells #[.slice RA rs.length rc, .slice WA rs.length wc] 27)
    have C1 := Lib.hid (Cs.new w1 [.slice RA rs.length rc, .slice WA rs.length wc] 27)
    have y0 := C1.out.cell 0 rfl
    have y1 := C1.out.cell 1 rfl
    have V1 := Lib.hid (hV.below ba)
    have B1' := Lib.hid (bel_trans b1 ba)
    obtain ⟨b, off, A0, m0, c0, zs0, rfl, _, cR0, iR0, hz0⟩ := V1.out.rows.at (j := 0) (by omega)
    obtain ⟨r0, hr0, rfl⟩ := rows_at hz0.out
    have lr0 := ok.len (List.mem_of_getElem? hr0)
    have e2 := iR0.1
    rw [zr_len] at e2
    obtain rfl : N = m0 := by omega
    rw [Nat.add_zero] at cR0
    have z1 : (0 : Int) < (rs.length : Int) := by omega
    clear ok hV b1 ba iR0 hz0 hr0 e2 lr0
    go_wp2_with fail
    clear cR0
    refine (kemenyRanking_ok N rs ws OK.out (some ⟨b, off, none⟩) rc WA wc _ V1.out).mono ?_
    rintro e w2 ⟨q, QA, qc, rfl, hq, hleast, iq, b2⟩
    have HQ := Lib.hid hq
    have LEAST := Lib.hid hleast
    have IQ := Lib.hid iq
    have C2 := Lib.hid (C1.out.below b2)
    have V2 := Lib.hid (V1.out.below b2)
    have B2 := Lib.hid (bel_trans B1'.out b2)
    clear hq hleast iq b2 y0 y1 C1 V1 B1'
    have y0 := C2.out.cell 0 rfl
    have y1 := C2.out.cell 1 rfl
    go_wp2_with fail
    refine (disagreementOf_ok N rs ws OK.out (some ⟨b, off, none⟩) rc WA wc q HQ.out QA qc _ V2.out IQ.out).mono ?_
    rintro e w3 ⟨rfl, b3⟩
    have C3 := Lib.hid (C2.out.below b3)
    have V3 := Lib.hid (V2.out.below b3)
    have IQ3 := Lib.hid (IQ.out.below b3)
    have K3 := Lib.hid (k.below (bel_trans B2.out b3))
    have B3 := Lib.hid (bel_trans B2.out b3)
    clear b3 y0 y1 C2 V2 B2 IQ
    have y0 := C3.out.cell 0 rfl
    have y1 := C3.out.cell 1 rfl
    go_wp2_with fail
    refine (R8Ranking_any N n1 n6 B m d ys _ K3.out).mono ?_
    rintro e w4 ⟨r, R, rd, rfl, hr, ho, b4⟩
    have HR := Lib.hid hr
    have C4 := (C3.out.below b4)
    have V4 := (V3.out.below b4)
    have IQ4 := (IQ3.out.below b4)
    have IR4 := ho.ints
    have B4 := (bel_trans B3.out b4)
    clear hr ho b4 y0 y1 C3 V3 B3 IQ3 K3
    have bl := bel_alloc w4 (.cells #[] 2)
    have O0 := Lib.hid (ownI_lit w4)
    have C5 := Lib.hid (C4.below bl)
    have V5 := Lib.hid (V4.below bl)
    have IQ5 := Lib.hid (IQ4.below bl)
    have IR5 := Lib.hid (IR4.below bl)
    have B5 := Lib.hid (bel_trans B4 bl)
    have HBL := Lib.hid bl
    have C4 := Lib.hid C4
    have V4 := Lib.hid V4
    have IQ4 := Lib.hid IQ4
    have IR4 := Lib.hid IR4
    have B4 := Lib.hid B4
    have y0 := C5.out.cell 0 rfl
    have y1 := C5.out.cell 1 rfl
    have ew0 : IntKind.i64.wrap ((N : Int) - 1) = (N : Int) - 1 := IntWalk.i64_in _ (by omega)
    clear bl
    go_wp2_with fail
    clear y0 y1
    have LR := Lib.hid (show (zr r).length = N by rw [zr_len]; have := HR.out.length_eq; simpa using this)
    have RT := Lib.hid (fun (m : Nat) (z : Int) (h : (zr r)[m]? = some z) => rev_take h)
    rw [LR.out] at RT
    go_loopw [13, 14] (fun s q wr => ∃ (k : Nat) (A' : Option Addr) (c' : Nat), k ≤ N ∧ q = .int .i64 ((k : Int) - 1) ∧ s = .slice A' (N - k) c' ∧ OwnI wr w4.heap.size A' (N - k) c' ((zr r).reverse.take (N - k)) ∧ Below w4.heap.size w4 wr) (fun _ q _ => (intOf q + 1).toNat)
    case atStart => exact ⟨N, _, 0, Nat.le_refl _, rfl, by rw [Nat.sub_self], by rw [Nat.sub_self]; exact O0.out, HBL.out⟩
    case round =>
      obtain ⟨k, A', c', hk, rfl, rfl, ho, hb⟩ := hrel
      have HO := Lib.hid ho
      have HB := Lib.hid hb
      clear ho hb
      rcases k with _ | j
      · have d0 := decide_eq_false (show ¬ (0 : Int) ≤ ((0 : Nat) : Int) - 1 by omega)
        have C6 := Lib.hid (C4.out.below HB.out)
        have V6 := Lib.hid (V4.out.below HB.out)
        have IQ6 := Lib.hid (IQ4.out.below HB.out)
        have IR6 := Lib.hid (IR4.out.below HB.out)
        have IB6 := HO.out.ints
        have B6 := Lib.hid (bel_trans B4.out HB.out)
        rw [Nat.sub_zero] at IB6
        rw [List.take_of_length_le (by rw [List.length_reverse, LR.out]; exact Nat.le_refl _), ← zr_rev] at IB6
        have IB6 := Lib.hid IB6
        have HRR := Lib.hid ((List.reverse_perm r).trans HR.out)
        clear C4 V4 IQ4 IR4 B4 C5 V5 IQ5 IR5 B5 HB HO O0 HBL
        rw [Nat.sub_zero]
        have y0 := C6.out.cell 0 rfl
        have y1 := C6.out.cell 1 rfl
        go_wp2_with fail
        refine (disagreementOf_ok N rs ws OK.out (some ⟨b, off, none⟩) rc WA wc r HR.out R rd _ V6.out IR6.out).mono ?_
        rintro e w7 ⟨rfl, b7⟩
        have C7 := Lib.hid (C6.out.below b7)
        have V7 := Lib.hid (V6.out.below b7)
        have IQ7 := Lib.hid (IQ6.out.below b7)
        have IB7 := Lib.hid (IB6.out.below b7)
        have B7 := Lib.hid (bel_trans B6.out b7)
        clear b7 y0 y1 C6 V6 IQ6 IB6 B6 IR6
        have y0 := C7.out.cell 0 rfl
        have y1 := C7.out.cell 1 rfl
        go_wp2_with fail
        refine (disagreementOf_ok N rs ws OK.out (some ⟨b, off, none⟩) rc WA wc r.reverse HRR.out A' c' _ V7.out IB7.out).mono ?_
        rintro e w8 ⟨rfl, b8⟩
        have C8 := Lib.hid (C7.out.below b8)
        have V8 := Lib.hid (V7.out.below b8)
        have IQ8 := Lib.hid (IQ7.out.below b8)
        have B8 := Lib.hid (bel_trans B7.out b8)
        clear b8 y0 y1 C7 V7 IQ7 IB7 B7
        have y0 := C8.out.cell 0 rfl
        have y1 := C8.out.cell 1 rfl
        go_wp2_with fail
        refine (bordaScores_ok N rs ws OK.out (some ⟨b, off, none⟩) rc WA wc _ V8.out).mono ?_
        rintro e w9 ⟨SA, sc, rfl, si, b9⟩
        have SI := Lib.hid si
        have C9 := Lib.hid (C8.out.below b9)
        have V9 := Lib.hid (V8.out.below b9)
        have IQ9 := Lib.hid (IQ8.out.below b9)
        have B9 := Lib.hid (bel_trans B8.out b9)
        clear b9 si y0 y1 C8 V8 IQ8 B8
        have y0 := C9.out.cell 0 rfl
        have y1 := C9.out.cell 1 rfl
        have K1 := kem_all OK.out HR.out
        have PB := prs_all OK.out
        have LX := LEAST.out r HR.out
        have SWb := sum_bd (zs := ws) (fun z hz => by have := OK.out.wt z hz; omega) ws.length
        have lw := OK.out.lw
        obtain ⟨P, hP⟩ : ∃ P, prs (rs.zip ws) = P := ⟨_, rfl⟩
        rw [hP] at K1 PB LX SI ⊢
        clear hP LEAST
        have RSM := Lib.hid (rowF_sum (fun a => tot (P a) N) N)
        have SBD : Hid (∀ z ∈ rowF N (fun a => tot (P a) N), 0 ≤ z ∧ z ≤ 10000000) := fun z hz => by
          obtain ⟨a, _, rfl⟩ := List.mem_map.1 hz
          have := tot_bd (PB a) N
          omega
        obtain ⟨X, hX⟩ : ∃ x, dis P r = x := ⟨_, rfl⟩
        obtain ⟨Y, hY⟩ : ∃ x, dis P r.reverse = x := ⟨_, rfl⟩
        obtain ⟨D, hD⟩ : ∃ x, dis P q = x := ⟨_, rfl⟩
        obtain ⟨T, hT⟩ : ∃ x, tot (fun a => tot (P a) N) N = x := ⟨_, rfl⟩
        rw [hX, hY, hT] at K1
        rw [hX, hD] at LX
        rw [hX, hY, hD]
        rw [hT] at RSM
        have ZW : Hid (∀ z ∈ ws, 0 ≤ z ∧ z ≤ 10000000) := fun z hz => by have := OK.out.wt z hz; omega
        rw [List.take_of_length_le (Nat.le_refl _)] at SWb
        obtain ⟨S, hS⟩ : ∃ x, ws.sum = x := ⟨_, rfl⟩
        rw [hS] at K1 SWb
        have HS := Lib.hid hS
        clear hX hY hD hT hS
        have N2 : ((N : Int)) = 1 ∨ (N : Int) = 2 ∨ (N : Int) = 3 ∨ (N : Int) = 4 ∨ (N : Int) = 5 ∨ (N : Int) = 6 := by omega
        have WW : IntKind.i64.wrap (S * (N : Int)) = S * (N : Int) ∧ IntKind.i64.wrap (S * (N : Int) * ((N : Int) - 1)) = S * (N : Int) * ((N : Int) - 1) ∧ (S * (N : Int) * ((N : Int) - 1)).tdiv 2 = X + Y ∧ T = X + Y ∧ IntKind.i64.wrap (X + Y) = X + Y := by
          obtain ⟨k1, k2⟩ := K1
          rcases N2 with e | e | e | e | e | e <;> rw [e] at k1 k2 ⊢ <;>
          exact ⟨IntWalk.i64_in _ (by omega), IntWalk.i64_in _ (by omega), by rw [Int.tdiv_eq_ediv_of_nonneg (by omega)]; omega, by omega, IntWalk.i64_in _ (by omega)⟩
        obtain ⟨W1, W2, W3, W4, W5⟩ := WW
        subst W4
        clear K1 N2 SWb PB
        have e1 : ((N : Int) != (N : Int)) = false := by simp
        have e2 : (D == D) = true := by simp
        have e3 := decide_eq_true LX
        have e4 : (X + Y == X + Y) = true := by simp
        have B9 := Lib.hid B9.out
        have R8S := Lib.hid (fun w h => r8Sum_ok WA rs.length wc ws ZW.out (by omega) w h)
        have n61 : N ≤ 1000 := by omega
        go_wp2_with fail
        refine (R8S.out w9 V9.out.wts).mono ?_
        rintro e w10 ⟨rfl, rfl⟩
        rw [HS.out]
        go_wp2_with fail
        refine (r8Ranks_ok N n6 q HQ.out QA qc w9 IQ9.out).mono ?_
        rintro e w10 ⟨rfl, rfl⟩
        have BS := Lib.hid (fun w h => r8Sum_ok SA N sc _ SBD.out (by omega) w h)
        rw [RSM.out] at BS
        go_wp2_with fail
        refine (BS.out w9 SI.out).mono ?_
        rintro e w10 ⟨rfl, rfl⟩
        go_wp2_with fail
        go_ret
        exact ⟨rfl, B9.out⟩
      · have hjn : j < N := by omega
        have IR6 := Lib.hid (IR4.out.below HB.out)
        obtain ⟨b2, off2, z, rfl, _, hcell, hz1, hz2, hzi⟩ := IR6.out.at hjn
        have NX := Lib.hid (RT.out j z hzi.out)
        have d0 := decide_eq_true (show (0 : Int) ≤ (j : Int) by omega)
        have ew1 : IntKind.i64.wrap ((j : Int) - 1) = (j : Int) - 1 := IntWalk.i64_in _ (by omega)
        have j0 : (0 : Int) ≤ (j : Int) := by omega
        have j1 : (j : Int) < (N : Int) := by omega
        have ej : ((j + 1 : Nat) : Int) - 1 = (j : Int) := by omega
        rw [ej]
        clear hzi ej
        have LN := Lib.hid (show N - j = N - (j + 1) + 1 by omega)
        have ln : N - (j + 1) ≤ 6 := by omega
        obtain ⟨u, hu⟩ : ∃ x, N - (j + 1) = x := ⟨_, rfl⟩
        rw [hu] at HO NX LN ln
        rw [hu]
        clear hu
        go_wp2_with (at_builtin; refine app_int_at wr rfl _ _ rfl w4.heap.size A' u c' _ rfl HO.out z (by omega) (by omega) rfl (by omega) HB.out.size ?_; intro A3 c3 w7 p1 p2 p3)
        go_roundw
        case rel =>
          rw [LN.out] at NX
          refine ⟨j, A3, c3, by omega, rfl, by rw [LN.out], ?_, HB.out.grown p2 HB.out.size (fun x hx => (HO.out.block x hx).1)⟩
          rw [LN.out, NX.out]
          exact p1
        case measure => simp [intOf]
end Go.Proofs.Ytikcbconfinibaa
