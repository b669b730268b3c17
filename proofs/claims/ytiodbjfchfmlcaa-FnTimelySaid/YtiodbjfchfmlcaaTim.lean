/- FnTimely, walked. -/
import Derived.Test.YtiodbjfchfmlcaaPhr2
import Derived.Test.YtiodbjfchfmlcaaTimM
import Derived.Test.YtiodbjfchfmlcaaGrd
import Derived.Test.YtiodbjfchfmlcaaElF
namespace Go.Proofs.Ytiodbjfchfmlcaa
set_option linter.unusedVariables false
set_option linter.unusedSimpArgs false
set_option maxRecDepth 100000
open Go.RowKit Go.Deep
--GENBEG
--GENEND
set_option maxHeartbeats 8000000 in
theorem fnTimely_walk (w : World) (A : Option Addr) (n0 c : Nat) (zs : List Int) (h : Ints .u8 w A n0 c zs) (B : Option Addr) (m0 d : Nat) (ys : List Int) (k : Ints .u8 w B m0 d ys) :
    Calls Try.prog 4 #[.slice A n0 c, .slice B m0 d] w fun e w' => e = .returned (.bool true) ∧ Below w.heap.size w w' := by
  have hn := h.short
  have hm := k.short
  by_cases h1 : (decide ((1048576 : Int) < n0) || decide ((1048576 : Int) < m0)) = true
  · have H1 := Lib.hid h1
    clear h1
    go_enter Try.func4, Try.ntmps4
    go_wp2_with fail
    refine (b10Long_ok A n0 c B m0 d _ hn hm).mono ?_
    rintro e w1 ⟨rfl, rfl⟩
    rw [H1.out]
    go_wp2_with fail
    go_ret
    exact ⟨rfl, Below.refl _ _⟩
  have H1 : Hid ((decide ((1048576 : Int) < n0) || decide ((1048576 : Int) < m0)) = false) := by show _ = _; simpa using h1
  have HA := Lib.hid h
  clear h1 h k
  go_enter Try.func4, Try.ntmps4
  go_wp2_with fail
  refine (b10Long_ok A n0 c B m0 d _ hn hm).mono ?_
  rintro e w1 ⟨rfl, rfl⟩
  rw [H1.out]
  go_wp2_with fail
  refine (b10Election_any A n0 c zs _ HA.out).mono ?_
  rintro r w2 ⟨e, CA, m, cc, AA, n, ac, rfl, ok, hel, b2⟩
  have OK := Lib.hid ok
  have hm := hel.cl
  have hn := hel.al
  have h6 := ok.cs1
  have a6 := ok.ap1
  have b0 := bel_alloc w2 (.cells #[.int .i64 e.mon, .slice CA m cc, .slice AA n ac] 27)
  have CE := Lib.hid (Cs.new w2 [.int .i64 e.mon, .slice CA m cc, .slice AA n ac] 27)
  have HE := Lib.hid (hel.below b0)
  have B2 := Lib.hid (bel_trans b2 b0)
  simp only [List.toArray] at CE
  obtain ⟨ge, hge⟩ : ∃ z, w2.heap.size = z := ⟨_, rfl⟩
  obtain ⟨w3, hw3⟩ : ∃ z, w2.alloc (.cells #[.int .i64 e.mon, .slice CA m cc, .slice AA n ac] 27) = z := ⟨_, rfl⟩
  rw [hw3] at CE HE B2
  rw [hge] at CE
  have HGE := Lib.hid hge
  have HW3 := Lib.hid hw3
  have y0 := CE.out.cell 0 rfl
  have y1 := CE.out.cell 1 rfl
  have y2 := CE.out.cell 2 rfl
  clear ok hel b0 b2 hge hw3 H1 HA
  go_upto_region 4 with fail
  rw [HGE.out, HW3.out]
  go_wp2_with fail
  refine (phragmen_ok CA m cc AA n ac e w3 HE.out OK.out).mono ?_
  rintro r w4 ⟨⟨D, lf, R, dn, O, oc, T, tc, hs, rfl, ho, ht⟩, b4⟩
  have HS := Lib.hid hs
  have O4 := Lib.hid ho
  have T4 := Lib.hid ht
  have CE4 := Lib.hid (CE.out.below b4)
  have HE4 := Lib.hid (HE.out.below b4)
  have B4 := Lib.hid (bel_trans B2.out b4)
  have y0 := CE4.out.cell 0 rfl
  have y1 := CE4.out.cell 1 rfl
  have y2 := CE4.out.cell 2 rfl
  clear hs ho ht b4 CE HE B2 HGE HW3
  go_wp2_with fail
  refine (greedy_ok CA m cc AA n ac e w4 HE4.out OK.out).mono ?_
  rintro r w5 ⟨⟨G, Lg, gc, gz, rfl, hg, hnd, hgm, hgl⟩, b5⟩
  have HG := Lib.hid hg
  have GN := Lib.hid hnd
  have GM := Lib.hid hgm
  have O5 := Lib.hid (O4.out.below b5)
  have T5 := Lib.hid (T4.out.below b5)
  have CE5 := Lib.hid (CE4.out.below b5)
  have HE5 := Lib.hid (HE4.out.below b5)
  have B5 := Lib.hid (bel_trans B4.out b5)
  have hgL := hg.len
  have Lgm : Lg ≤ m := by omega
  have rl := HS.out.rl
  have dl := HS.out.dn6 OK.out
  have Rm : R.length ≤ m := by omega
  have y0 := CE5.out.cell 0 rfl
  have y1 := CE5.out.cell 1 rfl
  have y2 := CE5.out.cell 2 rfl
  have rr : ((R.length : Int) != (R.length : Int)) = false := by simp
  have dr := decide_eq_false (show ¬ (m : Int) < (R.length : Int) by omega)
  have dr2 := decide_eq_false (show ¬ m < R.length by omega)
  have F1 := Lib.hid (frsO_lit w5 D)
  have BL := Lib.hid (bel_alloc w5 (.cells #[] 32))
  clear hg hnd hgm b5 CE4 HE4 B4 O4 T4 hgL
  have dz := Lib.hid (frs0 D HS.out.d1)
  have n6 : n ≤ 6 := by omega
  have m6 : m ≤ 6 := by omega
  go_wp2_with fail
  go_loopw [11, 12] (fun s t wr => ∃ (k : Nat) (O : Option Addr) (cS : Nat), k ≤ n ∧ s = .slice O k cS ∧ t = .int .i64 k ∧ FrsO wr w5.heap.size O k cS D (List.replicate k 0) ∧ Below w5.heap.size w5 wr) (fun _ t _ => n - (intOf t).toNat)
  case atStart => exact ⟨0, _, 0, Nat.zero_le _, rfl, rfl, F1.out, BL.out⟩
  case round =>
    obtain ⟨k, S, cS, hk, rfl, rfl, ho, hb⟩ := hrel
    have HO := Lib.hid ho
    have HB := Lib.hid hb
    have bsz := hb.size
    have CK := Lib.hid (CE5.out.below hb)
    have y2 := CK.out.cell 2 rfl
    have y0 := CK.out.cell 0 rfl
    clear ho hb F1 BL y1
    by_cases hlt : k < n
    · have d0 := decide_eq_true (show (k : Int) < (n : Int) by omega)
      go_wp2_with (at_builtin; refine app_fr1 wr rfl _ _ rfl w5.heap.size S k cS D _ rfl HO.out 0 0 1 dz.out.1 dz.out.2 rfl (by omega) bsz ?_; intro A' c' w4 p1 p2 p3)
      go_roundw
      case rel => exact ⟨k + 1, A', c', by omega, rfl, by go_num, by rw [List.replicate_succ']; exact p1, HB.out.grown p2 HB.out.size (fun x hx => (HO.out.block x hx).1)⟩
      case measure => simp [intOf]; omega
    · obtain rfl : n = k := by omega
      have d0 := decide_eq_false (show ¬ (n : Int) < (n : Int) by omega)
      obtain ⟨gs, rfl, gs0, gs1⟩ := OwnR.form HO.out (by omega)
      have SP := Lib.hid (show FrsO wr w5.heap.size (some ⟨gs, 0, none⟩) n cS D (slR e.ap n (rk R 0)) from by
        have : slR e.ap n (rk R 0) = List.replicate n 0 := by
          rw [rk_zero]
          unfold slR
          rw [List.eq_replicate_iff]
          exact ⟨by simp, fun b hb => by obtain ⟨v, _, rfl⟩ := List.mem_map.1 hb; rfl⟩
        rw [this]
        exact HO.out)
      clear HO
      go_wp2_with fail
      go_loopw [13, 14] (fun s13 t wr => ∃ (k : Nat), k ≤ R.length ∧ s13 = .int .i64 (e.mon - costR e.cs (rk R k)) ∧ t = .int .i64 k ∧ FrsO wr w5.heap.size (some ⟨gs, 0, none⟩) n cS D (slR e.ap n (rk R k)) ∧ Below w5.heap.size w5 wr) (fun _ t _ => R.length - (intOf t).toNat)
      case atStart => exact ⟨0, Nat.zero_le _, by rw [rk_zero]; simp [costR], rfl, SP.out, HB.out⟩
      case round =>
        obtain ⟨k, hk, rfl, rfl, hsp, hb⟩ := hrel
        have SK := Lib.hid hsp
        have BK := Lib.hid hb
        have CK := Lib.hid (CE5.out.below hb)
        have HK := Lib.hid (HE5.out.below hb)
        have OK5 := Lib.hid (O5.out.below hb)
        have TK := Lib.hid (T5.out.below hb)
        have bz := hb.size
        have gsl := (hsp.block gs rfl).2
        clear hsp hb SP HB y0 y2
        by_cases hlt : k < R.length
        · have d0 := decide_eq_true (show (k : Int) < (R.length : Int) by omega)
          obtain ⟨x, t, RS, gx, gt⟩ := rk_step hlt
          have TS := Lib.hid (tim_step OK.out HS.out.d1 HS.out.ok (by omega) hlt RS)
          have HRS := Lib.hid RS
          have xm : x < m := by have := TS.out.hx; omega
          obtain ⟨gO, rfl, gO0, gO1⟩ := OK5.out.form (by omega)
          have cO := OK5.out.cell (zns_at gx)
          obtain ⟨gT, rfl, gT0, gT1, cT0, cT1, _⟩ := TK.out.at gt
          have HGT := Lib.hid gt
          have HGX := Lib.hid gx
          obtain ⟨P0, hP0⟩ : ∃ z, redN t D = z := ⟨_, rfl⟩
          obtain ⟨P1, hP1⟩ : ∃ z, redD t D = z := ⟨_, rfl⟩
          rw [hP0] at cT0
          rw [hP1] at cT1
          have HP := Lib.hid (And.intro hP0 hP1)
          have x0 : (0 : Int) ≤ (x : Int) := by omega
          have x1 : (x : Int) < (m : Int) := by omega
          have k0 : (0 : Int) ≤ (k : Int) := by omega
          have k1 : (k : Int) < (R.length : Int) := by omega
          have SU := Lib.hid (fun W (hW : Below wr.heap.size wr W) => supportersOf_ok CA m cc AA n ac e x W (HK.out.below hW) OK.out ⟨x0, x1⟩)
          have SS := Lib.hid (fun W (hW : Below wr.heap.size wr W) => (show Below wr.heap.size wr W ∧ W.cell? ⟨ge, 0, none⟩ = some (.int .i64 e.mon) ∧ W.cell? ⟨ge, 1, none⟩ = some (.slice CA m cc) ∧ W.cell? ⟨ge, 2, none⟩ = some (.slice AA n ac) ∧ W.cell? ⟨gO, k, none⟩ = some (.int .i64 (x : Int)) from
            ⟨hW, (CK.out.below hW).cell 0 rfl, (CK.out.below hW).cell 1 rfl, (CK.out.below hW).cell 2 rfl, (hW.cell (p := ⟨gO, k, none⟩) gO1).trans cO⟩))
          have gOl : gO < w5.heap.size := (O5.out.block gO rfl).2
          have gTl : gT < w5.heap.size := (T5.out.block gT rfl).2
          clear RS gx gt hP0 hP1 cO cT0 cT1
          go_wp2_with fail
          refine wp_region_noPanic ?_
          refine wp_region_R (inFirst (fun W => Below wr.heap.size wr W ∧ W.cell? ⟨ge, 0, none⟩ = some (.int .i64 e.mon) ∧ W.cell? ⟨ge, 1, none⟩ = some (.slice CA m cc) ∧ W.cell? ⟨ge, 2, none⟩ = some (.slice AA n ac) ∧ W.cell? ⟨gO, k, none⟩ = some (.int .i64 (x : Int))) 11) (by kernel_rfl) ?_
          have hS := SS.out wr.drew ⟨rfl, rfl, rfl, Nat.le_refl _, fun _ _ => rfl⟩
          obtain ⟨v0, hv0⟩ : ∃ x, wr.drew = x := ⟨_, rfl⟩
          rw [hv0] at hS
          rw [hv0]
          clear hv0
          have sv0 := hS.1.size
          refine anyR_take (i := 0) (.agg #[.int .i64 e.mon, .slice CA m cc, .slice AA n ac]) rfl (by kernel_rfl) (by kernel_rfl) (by kernel_rfl) (by kernel_rfl) (fun _ _ _ h => h) (by assumption) ⟨by rfl, ?_⟩ ?_
          · intro W hW
            go_simp
          try simp only [Act.put, List.setIfInBounds_toArray, List.set_cons_zero, List.set_cons_succ, List.getElem_toArray, List.getElem_cons_zero, List.getElem_cons_succ]
          refine anyR_take (i := 1) (.slice (some ⟨gO, 0, none⟩) R.length oc) rfl (by kernel_rfl) (by kernel_rfl) (by kernel_rfl) (by kernel_rfl) (fun _ _ _ h => h) (by assumption) ⟨by rfl, ?_⟩ ?_
          · intro W hW
            go_simp
          try simp only [Act.put, List.setIfInBounds_toArray, List.set_cons_zero, List.set_cons_succ, List.getElem_toArray, List.getElem_cons_zero, List.getElem_cons_succ]
          refine anyR_take (i := 2) (.int .i64 (k : Nat)) rfl (by kernel_rfl) (by kernel_rfl) (by kernel_rfl) (by kernel_rfl) (fun _ _ _ h => h) (by assumption) ⟨by rfl, ?_⟩ ?_
          · intro W hW
            go_simp
          try simp only [Act.put, List.setIfInBounds_toArray, List.set_cons_zero, List.set_cons_succ, List.getElem_toArray, List.getElem_cons_zero, List.getElem_cons_succ]
          refine anyR_take (i := 3) (.pointer (some ⟨gO, k, none⟩)) rfl (by kernel_rfl) (by kernel_rfl) (by kernel_rfl) (by kernel_rfl) (fun _ _ _ h => h) (by assumption) ⟨by rfl, ?_⟩ ?_
          · intro W hW
            go_simp
          try simp only [Act.put, List.setIfInBounds_toArray, List.set_cons_zero, List.set_cons_succ, List.getElem_toArray, List.getElem_cons_zero, List.getElem_cons_succ]
          refine anyR_take (i := 4) (.int .i64 (x : Nat)) rfl (by kernel_rfl) (by kernel_rfl) (by kernel_rfl) (by kernel_rfl) (fun _ _ _ h => h) (by assumption) ⟨by rfl, ?_⟩ ?_
          · intro W hW
            go_simp
          try simp only [Act.put, List.setIfInBounds_toArray, List.set_cons_zero, List.set_cons_succ, List.getElem_toArray, List.getElem_cons_zero, List.getElem_cons_succ]
          refine anyR_one (i := 5) (by kernel_rfl) rfl ?_
          intro K hK
          go_simp
          go_at_call 15
          refine (SU.out _ hS.1).mono ?_
          rintro _ w9 ⟨SA, Ls, sc, rfl, ho, b9⟩
          have HO9 := Lib.hid ho
          clear ho
          have hT := SS.out w9 (bel_trans hS.1 b9)
          refine hK.out _ _ (fun _ => hT) ?_
          clear hS b9
          have hS := hT
          clear hT
          clear hK K
          try simp only [Act.put, List.setIfInBounds_toArray, List.set_cons_zero, List.set_cons_succ, List.getElem_toArray, List.getElem_cons_zero, List.getElem_cons_succ]
          refine anyR_take (i := 6) (.tuple #[.slice SA Ls sc, .bool true]) rfl (by kernel_rfl) (by kernel_rfl) (by kernel_rfl) (by kernel_rfl) (fun _ _ _ h => h) (by assumption) ⟨by rfl, ?_⟩ ?_
          · intro W hW
            go_simp
          try simp only [Act.put, List.setIfInBounds_toArray, List.set_cons_zero, List.set_cons_succ, List.getElem_toArray, List.getElem_cons_zero, List.getElem_cons_succ]
          refine anyR_take (i := 7) (.slice SA Ls sc) rfl (by kernel_rfl) (by kernel_rfl) (by kernel_rfl) (by kernel_rfl) (fun _ _ _ h => h) (by assumption) ⟨by rfl, ?_⟩ ?_
          · intro W hW
            go_simp
          try simp only [Act.put, List.setIfInBounds_toArray, List.set_cons_zero, List.set_cons_succ, List.getElem_toArray, List.getElem_cons_zero, List.getElem_cons_succ]
          refine anyR_take (i := 8) (.bool true) rfl (by kernel_rfl) (by kernel_rfl) (by kernel_rfl) (by kernel_rfl) (fun _ _ _ h => h) (by assumption) ⟨by rfl, ?_⟩ ?_
          · intro W hW
            go_simp
          try simp only [Act.put, List.setIfInBounds_toArray, List.set_cons_zero, List.set_cons_succ, List.getElem_toArray, List.getElem_cons_zero, List.getElem_cons_succ]
          refine anyR_take (i := 9) (.slice SA Ls sc) rfl (by kernel_rfl) (by kernel_rfl) (by kernel_rfl) (by kernel_rfl) (fun _ _ _ h => h) (by assumption) ⟨by rfl, ?_⟩ ?_
          · intro W hW
            go_simp
          try simp only [Act.put, List.setIfInBounds_toArray, List.set_cons_zero, List.set_cons_succ, List.getElem_toArray, List.getElem_cons_zero, List.getElem_cons_succ]
          refine anyR_take (i := 10) (.bool true) rfl (by kernel_rfl) (by kernel_rfl) (by kernel_rfl) (by kernel_rfl) (fun _ _ _ h => h) (by assumption) ⟨by rfl, ?_⟩ ?_
          · intro W hW
            go_simp
          try simp only [Act.put, List.setIfInBounds_toArray, List.set_cons_zero, List.set_cons_succ, List.getElem_toArray, List.getElem_cons_zero, List.getElem_cons_succ]
          refine anyR_done (by kernel_rfl) ?_ _
          refine NoPanic.normal ?_
          have B9 := Lib.hid hS.1
          clear hS SS
          have hLs := HO9.out.len
          rw [zns_len] at hLs
          have HLS := Lib.hid hLs
          have Ls6 : Ls ≤ 6 := by have := supN_len e.ap (x : Int) n; omega
          have Ls1 : 0 < Ls := by have := TS.out.sz; unfold sz at this; rw [hn, hLs] at this; omega
          obtain ⟨gS, rfl, gS0, gS1⟩ := HO9.out.form Ls1
          have e0 := decide_eq_false (show ¬ (Ls : Int) = 0 by omega)
          have e1 : ((Ls : Int) == 0) = false := by simp; omega
          have e2 : (Ls == 0) = false := by simp; omega
          have SL9 := Lib.hid (HO9.out.mono (b2 := w5.heap.size) (by omega))
          have BK9 := Lib.hid (bel_trans BK.out B9.out)
          have SK9 := Lib.hid (SK.out.below B9.out)
          have z9 := B9.out.size
          have EL := Lib.hid (BO.new 32 w9 (.int .i64 0) (.int .i64 1))
          have ba := bel_alloc w9 (.cells #[.int .i64 0, .int .i64 1] 32)
          have SL10 := Lib.hid (SL9.out.below ba)
          have BK10 := Lib.hid (bel_trans BK9.out ba)
          have SK10 := Lib.hid (SK9.out.below ba)
          have EV := Lib.hid (show (0 : Int) = redN (ernS e.ap (rk R k) t ((supN e.ap (x : Int) n).take 0)) D ∧ (1 : Int) = redD (ernS e.ap (rk R k) t ((supN e.ap (x : Int) n).take 0)) D from ⟨dz.out.1.symm, dz.out.2.symm⟩)
          clear hLs ba HO9 SL9 BK9 SK9 B9 CK HK OK5 TK SK BK SU
          go_wp2_with fail
          obtain ⟨g17, hg17⟩ : ∃ z, w9.heap.size = z := ⟨_, rfl⟩
          obtain ⟨w10, hw10⟩ : ∃ z, w9.alloc (.cells #[.int .i64 0, .int .i64 1] 32) = z := ⟨_, rfl⟩
          rw [hw10, hg17] at EL
          rw [hw10] at SL10 BK10 SK10
          rw [hw10, hg17]
          rw [hg17] at gS1 z9
          clear hw10 hg17
          go_loopw [18] (fun s18 wr => ∃ (i : Nat) (N M : Int), i ≤ Ls ∧ s18 = .int .i64 i ∧ BO 32 wr g17 (.int .i64 N) (.int .i64 M) ∧ Hid (N = redN (ernS e.ap (rk R k) t ((supN e.ap (x : Int) n).take i)) D ∧ M = redD (ernS e.ap (rk R k) t ((supN e.ap (x : Int) n).take i)) D) ∧ FrsO wr w5.heap.size (some ⟨gs, 0, none⟩) n cS D (slI e.ap n (rk R k) t ((supN e.ap (x : Int) n).take i)) ∧ OwnI wr w5.heap.size (some ⟨gS, 0, none⟩) Ls sc (zns (supN e.ap (x : Int) n)) ∧ Below w5.heap.size w5 wr) (fun t _ => Ls - (intOf t).toNat)
          case atStart => exact ⟨0, 0, 1, Nat.zero_le _, rfl, EL.out, EV.out, SK10.out, SL10.out, BK10.out⟩
          case round =>
            obtain ⟨i, N, M, hi, rfl, hbo, NM, hfr, hsl, hb⟩ := hrel
            have EI := Lib.hid hbo
            have FI := Lib.hid hfr
            have SI := Lib.hid hsl
            have BI := Lib.hid hb
            have zI := hb.size
            have gsI := (hfr.block gs rfl).2
            have gSI := (hsl.block gS rfl).2
            clear hbo hfr hsl hb EL SK10 SL10 BK10 EV
            by_cases hil : i < Ls
            · have d1 := decide_eq_true (show (i : Int) < (Ls : Int) by omega)
              obtain ⟨v, hvx⟩ : ∃ v, (supN e.ap (x : Int) n)[i]? = some v := ⟨_, List.getElem?_eq_getElem (by rw [HLS.out]; exact hil)⟩
              have hvn := (supN_mem (List.mem_of_getElem? hvx)).1
              have cv := SI.out.cell (zns_at hvx)
              have hvs := slI_at (ap := e.ap) (R := rk R k) (t := t) (supN_nodup e.ap (x : Int) n) hvx hvn
              obtain ⟨gs', eg, _, _, cs0, cs1, cfz⟩ := FI.out.at hvs
              simp only [Option.some.injEq, Addr.mk.injEq, and_true] at eg
              subst eg
              obtain ⟨Q0, hQ0⟩ : ∃ z, redN (snc e.ap (rk R k) v) D = z := ⟨_, rfl⟩
              obtain ⟨Q1, hQ1⟩ : ∃ z, redD (snc e.ap (rk R k) v) D = z := ⟨_, rfl⟩
              obtain ⟨A0, hA0⟩ : ∃ z, redN (t - snc e.ap (rk R k) v) D = z := ⟨_, rfl⟩
              obtain ⟨A1, hA1⟩ : ∃ z, redD (t - snc e.ap (rk R k) v) D = z := ⟨_, rfl⟩
              rw [hQ0] at cs0
              rw [hQ1] at cs1
              have D1 := HS.out.d1
              have D2 := HS.out.db OK.out
              have SV := TS.out.s0 v
              have T0 := TS.out.t0
              have T1 := TS.out.t1
              have LT6 : ((supN e.ap (x : Int) n).take i).length ≤ 6 := by rw [List.length_take, HLS.out]; omega
              have LT6' : ((supN e.ap (x : Int) n).take (i + 1)).length ≤ 6 := by rw [List.length_take, HLS.out]; omega
              have PT := TS.out.part _ LT6
              have PT' := TS.out.part _ LT6'
              rw [ernS_snoc hvx] at PT'
              have vt : Va t D := va_D T0 (by omega) D1 D2
              have vs : Va (snc e.ap (rk R k) v) D := va_D SV.1 (by omega) D1 D2
              have vd : Va (t - snc e.ap (rk R k) v) D := va_D (by omega) (by omega) D1 D2
              have SF0 := fun W => subF_ok vt vs vd W
              have AF0 := fun W => addF_ok (va_D PT.1 PT.2 D1 D2) vd (va_D PT'.1 PT'.2 D1 D2) W
              rw [← ernS_snoc hvx] at AF0
              obtain ⟨N', hN'⟩ : ∃ z, redN (ernS e.ap (rk R k) t ((supN e.ap (x : Int) n).take (i + 1))) D = z := ⟨_, rfl⟩
              obtain ⟨M', hM'⟩ : ∃ z, redD (ernS e.ap (rk R k) t ((supN e.ap (x : Int) n).take (i + 1))) D = z := ⟨_, rfl⟩
              unfold FV at SF0 AF0
              rw [HP.out.1, HP.out.2, hQ0, hQ1, hA0, hA1] at SF0
              rw [hA0, hA1, ← NM.out.1, ← NM.out.2, hN', hM'] at AF0
              have SF := Lib.hid SF0
              have AF := Lib.hid AF0
              have NM' := Lib.hid (And.intro hN'.symm hM'.symm)
              have A00 : 0 ≤ A0 := by rw [← hA0]; exact redN_nonneg (by omega)
              have TI := T5.out.below BI.out
              obtain ⟨gT', eg, _, _, cT0, cT1, _⟩ := TI.at HGT.out
              simp only [Option.some.injEq, Addr.mk.injEq, and_true] at eg
              subst eg
              rw [HP.out.1] at cT0
              rw [HP.out.2] at cT1
              have gTI : gT < wr.heap.size := by omega
              have NX := Lib.hid (show (supN e.ap (x : Int) n).take (i + 1) = (supN e.ap (x : Int) n).take i ++ [v] by rw [List.take_add_one, hvx]; rfl)
              have HVS := Lib.hid hvs
              have i0 : (0 : Int) ≤ (i : Int) := by omega
              have i1 : (i : Int) < (Ls : Int) := by omega
              have v0' : (0 : Int) ≤ (v : Int) := by omega
              have v1' : (v : Int) < (n : Int) := by omega
              have dv0 := decide_eq_false (show ¬ (v : Int) < 0 by omega)
              have dv1 := decide_eq_false (show ¬ (n : Int) ≤ (v : Int) by omega)
              have dv2 := decide_eq_false (show ¬ n ≤ v by omega)
              have SS := Lib.hid (fun W (hW : Below wr.heap.size wr W) => (show Below wr.heap.size wr W ∧ W.cell? ⟨gT, k * 2, none⟩ = some (.int .i64 P0) ∧ W.cell? ⟨gT, k * 2 + 1, none⟩ = some (.int .i64 P1) ∧ W.cell? ⟨gS, i, none⟩ = some (.int .i64 (v : Int)) ∧ W.cell? ⟨gs, v * 2, none⟩ = some (.int .i64 Q0) ∧ W.cell? ⟨gs, v * 2 + 1, none⟩ = some (.int .i64 Q1) from
                ⟨hW, (hW.cell (p := ⟨gT, k * 2, none⟩) gTI).trans cT0, (hW.cell (p := ⟨gT, k * 2 + 1, none⟩) gTI).trans cT1, (hW.cell (p := ⟨gS, i, none⟩) gSI).trans cv, (hW.cell (p := ⟨gs, v * 2, none⟩) gsI).trans cs0, (hW.cell (p := ⟨gs, v * 2 + 1, none⟩) gsI).trans cs1⟩))
              clear hQ0 hQ1 hA0 hA1 D1 D2 SV T0 T1 LT6 LT6' PT PT' vt vs vd SF0 AF0 hN' hM' TI cT0 cT1 hvx hvs cs0 cs1 cfz NM
              go_upto_region 26 with fail
              go_cut [19, 20] from 100 to 162 (fun s19 s20 wx => ∃ g19 : Nat, s19 = .pointer (some ⟨g19, 0, none⟩) ∧ s20 = .bool true ∧ wr.heap.size ≤ g19 ∧ BO 32 wx g19 (.int .i64 A0) (.int .i64 A1) ∧ Below wr.heap.size wr wx)
              case first =>
                refine wp_region_noPanic ?_
                refine wp_region_R (inFirst (fun W => Below wr.heap.size wr W ∧ W.cell? ⟨gT, k * 2, none⟩ = some (.int .i64 P0) ∧ W.cell? ⟨gT, k * 2 + 1, none⟩ = some (.int .i64 P1) ∧ W.cell? ⟨gS, i, none⟩ = some (.int .i64 (v : Int)) ∧ W.cell? ⟨gs, v * 2, none⟩ = some (.int .i64 Q0) ∧ W.cell? ⟨gs, v * 2 + 1, none⟩ = some (.int .i64 Q1)) 17) (by kernel_rfl) ?_
                have hS := SS.out wr.drew ⟨rfl, rfl, rfl, Nat.le_refl _, fun _ _ => rfl⟩
                obtain ⟨v0, hv0⟩ : ∃ x, wr.drew = x := ⟨_, rfl⟩
                rw [hv0] at hS
                rw [hv0]
                clear hv0
                have sv0 := hS.1.size
                refine anyR_take (i := 0) (.slice (some ⟨gT, 0, none⟩) R.length tc) rfl (by kernel_rfl) (by kernel_rfl) (by kernel_rfl) (by kernel_rfl) (fun _ _ _ h => h) (by assumption) ⟨by rfl, ?_⟩ ?_
                · intro W hW
                  go_simp
                try simp only [Act.put, List.setIfInBounds_toArray, List.set_cons_zero, List.set_cons_succ, List.getElem_toArray, List.getElem_cons_zero, List.getElem_cons_succ]
                refine anyR_take (i := 1) (.int .i64 (k : Nat)) rfl (by kernel_rfl) (by kernel_rfl) (by kernel_rfl) (by kernel_rfl) (fun _ _ _ h => h) (by assumption) ⟨by rfl, ?_⟩ ?_
                · intro W hW
                  go_simp
                try simp only [Act.put, List.setIfInBounds_toArray, List.set_cons_zero, List.set_cons_succ, List.getElem_toArray, List.getElem_cons_zero, List.getElem_cons_succ]
                refine anyR_take (i := 2) (.pointer (some ⟨gT, k * 2, none⟩)) rfl (by kernel_rfl) (by kernel_rfl) (by kernel_rfl) (by kernel_rfl) (fun _ _ _ h => h) (by assumption) ⟨by rfl, ?_⟩ ?_
                · intro W hW
                  go_simp
                try simp only [Act.put, List.setIfInBounds_toArray, List.set_cons_zero, List.set_cons_succ, List.getElem_toArray, List.getElem_cons_zero, List.getElem_cons_succ]
                refine anyR_take (i := 3) (.agg #[.int .i64 P0, .int .i64 P1]) rfl (by kernel_rfl) (by kernel_rfl) (by kernel_rfl) (by kernel_rfl) (fun _ _ _ h => h) (by assumption) ⟨by rfl, ?_⟩ ?_
                · intro W hW
                  go_simp
                try simp only [Act.put, List.setIfInBounds_toArray, List.set_cons_zero, List.set_cons_succ, List.getElem_toArray, List.getElem_cons_zero, List.getElem_cons_succ]
                refine anyR_take (i := 4) (.slice (some ⟨gs, 0, none⟩) n cS) rfl (by kernel_rfl) (by kernel_rfl) (by kernel_rfl) (by kernel_rfl) (fun _ _ _ h => h) (by assumption) ⟨by rfl, ?_⟩ ?_
                · intro W hW
                  go_simp
                try simp only [Act.put, List.setIfInBounds_toArray, List.set_cons_zero, List.set_cons_succ, List.getElem_toArray, List.getElem_cons_zero, List.getElem_cons_succ]
                refine anyR_take (i := 5) (.slice (some ⟨gS, 0, none⟩) Ls sc) rfl (by kernel_rfl) (by kernel_rfl) (by kernel_rfl) (by kernel_rfl) (fun _ _ _ h => h) (by assumption) ⟨by rfl, ?_⟩ ?_
                · intro W hW
                  go_simp
                try simp only [Act.put, List.setIfInBounds_toArray, List.set_cons_zero, List.set_cons_succ, List.getElem_toArray, List.getElem_cons_zero, List.getElem_cons_succ]
                refine anyR_take (i := 6) (.int .i64 (i : Nat)) rfl (by kernel_rfl) (by kernel_rfl) (by kernel_rfl) (by kernel_rfl) (fun _ _ _ h => h) (by assumption) ⟨by rfl, ?_⟩ ?_
                · intro W hW
                  go_simp
                try simp only [Act.put, List.setIfInBounds_toArray, List.set_cons_zero, List.set_cons_succ, List.getElem_toArray, List.getElem_cons_zero, List.getElem_cons_succ]
                refine anyR_take (i := 7) (.pointer (some ⟨gS, i, none⟩)) rfl (by kernel_rfl) (by kernel_rfl) (by kernel_rfl) (by kernel_rfl) (fun _ _ _ h => h) (by assumption) ⟨by rfl, ?_⟩ ?_
                · intro W hW
                  go_simp
                try simp only [Act.put, List.setIfInBounds_toArray, List.set_cons_zero, List.set_cons_succ, List.getElem_toArray, List.getElem_cons_zero, List.getElem_cons_succ]
                refine anyR_take (i := 8) (.int .i64 (v : Nat)) rfl (by kernel_rfl) (by kernel_rfl) (by kernel_rfl) (by kernel_rfl) (fun _ _ _ h => h) (by assumption) ⟨by rfl, ?_⟩ ?_
                · intro W hW
                  go_simp
                try simp only [Act.put, List.setIfInBounds_toArray, List.set_cons_zero, List.set_cons_succ, List.getElem_toArray, List.getElem_cons_zero, List.getElem_cons_succ]
                refine anyR_take (i := 9) (.pointer (some ⟨gs, v * 2, none⟩)) rfl (by kernel_rfl) (by kernel_rfl) (by kernel_rfl) (by kernel_rfl) (fun _ _ _ h => h) (by assumption) ⟨by rfl, ?_⟩ ?_
                · intro W hW
                  go_simp
                try simp only [Act.put, List.setIfInBounds_toArray, List.set_cons_zero, List.set_cons_succ, List.getElem_toArray, List.getElem_cons_zero, List.getElem_cons_succ]
                refine anyR_take (i := 10) (.agg #[.int .i64 Q0, .int .i64 Q1]) rfl (by kernel_rfl) (by kernel_rfl) (by kernel_rfl) (by kernel_rfl) (fun _ _ _ h => h) (by assumption) ⟨by rfl, ?_⟩ ?_
                · intro W hW
                  go_simp
                try simp only [Act.put, List.setIfInBounds_toArray, List.set_cons_zero, List.set_cons_succ, List.getElem_toArray, List.getElem_cons_zero, List.getElem_cons_succ]
                refine anyR_two (i := 11) (j := 15) (by kernel_rfl) rfl rfl ?_ ?_
                · intro K hK
                  go_simp
                  go_at_call 16
                  refine (SF.out _).mono ?_
                  rintro _ v1 ⟨rfl, c1⟩
                  have hT := SS.out v1 (bel_trans hS.1 c1)
                  refine hK.out _ _ (fun _ => hT) ?_
                  clear hS
                  have hS := hT
                  clear hT
                  clear hK K
                  try simp only [Act.put, List.setIfInBounds_toArray, List.set_cons_zero, List.set_cons_succ, List.getElem_toArray, List.getElem_cons_zero, List.getElem_cons_succ]
                  refine anyR_take (i := 12) (.tuple #[.agg #[.int .i64 A0, .int .i64 A1], .bool true]) rfl (by kernel_rfl) (by kernel_rfl) (by kernel_rfl) (by kernel_rfl) (fun _ _ _ h => h) (by assumption) ⟨by rfl, ?_⟩ ?_
                  · intro W hW
                    go_simp
                  try simp only [Act.put, List.setIfInBounds_toArray, List.set_cons_zero, List.set_cons_succ, List.getElem_toArray, List.getElem_cons_zero, List.getElem_cons_succ]
                  refine anyR_take (i := 13) (.agg #[.int .i64 A0, .int .i64 A1]) rfl (by kernel_rfl) (by kernel_rfl) (by kernel_rfl) (by kernel_rfl) (fun _ _ _ h => h) (by assumption) ⟨by rfl, ?_⟩ ?_
                  · intro W hW
                    go_simp
                  try simp only [Act.put, List.setIfInBounds_toArray, List.set_cons_zero, List.set_cons_succ, List.getElem_toArray, List.getElem_cons_zero, List.getElem_cons_succ]
                  refine anyR_take (i := 14) (.bool true) rfl (by kernel_rfl) (by kernel_rfl) (by kernel_rfl) (by kernel_rfl) (fun _ _ _ h => h) (by assumption) ⟨by rfl, ?_⟩ ?_
                  · intro W hW
                    go_simp
                  try simp only [Act.put, List.setIfInBounds_toArray, List.set_cons_zero, List.set_cons_succ, List.getElem_toArray, List.getElem_cons_zero, List.getElem_cons_succ]
                  refine anyR_one (i := 15) (by kernel_rfl) rfl ?_
                  intro K hK
                  go_simp
                  have c5 := bel_alloc v1 (.cells #[.int .i64 0, .int .i64 0] 32)
                  have N5 := Lib.hid (BO.new 32 v1 (.int .i64 0) (.int .i64 0))
                  have gz5 := hS.1.size
                  obtain ⟨g19, hg19⟩ : ∃ z, (v1).heap.size = z := ⟨_, rfl⟩
                  obtain ⟨v5, hv5⟩ : ∃ z, (v1).alloc (.cells #[.int .i64 0, .int .i64 0] 32) = z := ⟨_, rfl⟩
                  rw [hv5] at c5 N5
                  rw [hv5]
                  rw [hg19] at N5 gz5
                  try rw [hg19]
                  clear hv5 hg19
                  have hT := SS.out v5 (bel_trans hS.1 c5)
                  refine hK.out _ _ (fun _ => hT) ?_
                  clear hS
                  have hS := hT
                  clear hT
                  clear hK K
                  try simp only [Act.put, List.setIfInBounds_toArray, List.set_cons_zero, List.set_cons_succ, List.getElem_toArray, List.getElem_cons_zero, List.getElem_cons_succ]
                  have N6 := Lib.hid (N5.out)
                  have B6 := Lib.hid hS.1
                  have q0 := N6.out.cells.1
                  have q1 := N6.out.cells.2
                  have f0 := N6.out.free 0
                  have f1 := N6.out.free 1
                  clear hS
                  have GG := Lib.hid ((B6.out.setCell (p := ⟨g19, 0, none⟩) (by omega) (.int .i64 A0)).setCell (p := ⟨g19, 1, none⟩) (by omega) (.int .i64 A1))
                  have hT := SS.out _ GG.out
                  refine anyR_one (i := 16) (by kernel_rfl) rfl ?_
                  intro K hK
                  go_simp
                  refine hK.out _ _ (fun _ => hT) ?_
                  clear hT
                  clear hK K
                  try simp only [Act.put, List.setIfInBounds_toArray, List.set_cons_zero, List.set_cons_succ, List.getElem_toArray, List.getElem_cons_zero, List.getElem_cons_succ]
                  refine anyR_one (i := 17) (by kernel_rfl) rfl ?_
                  intro K hK
                  go_simp
                  refine hK.out _ _ (fun h => absurd h (by decide)) ?_
                  clear hK K
                  try simp only [Act.put, List.setIfInBounds_toArray, List.set_cons_zero, List.set_cons_succ, List.getElem_toArray, List.getElem_cons_zero, List.getElem_cons_succ]
                  refine anyR_done (by kernel_rfl) ?_ _
                  refine NoPanic.normal ?_
                  obtain ⟨p1, g1⟩ := N6.out.set0 (.int .i64 A0)
                  obtain ⟨p2, g2⟩ := p1.set1 (.int .i64 A1)
                  have P2 := Lib.hid p2
                  clear p1 g1 p2 g2 q0 q1 f0 f1
                  go_wp2_with fail
                  go_meet
                  case rel => exact ⟨g19, rfl, rfl, by omega, P2.out, GG.out⟩
                · intro K hK
                  go_simp
                  have c5 := bel_alloc v0 (.cells #[.int .i64 0, .int .i64 0] 32)
                  have N5 := Lib.hid (BO.new 32 v0 (.int .i64 0) (.int .i64 0))
                  have gz5 := hS.1.size
                  obtain ⟨g19, hg19⟩ : ∃ z, (v0).heap.size = z := ⟨_, rfl⟩
                  obtain ⟨v5, hv5⟩ : ∃ z, (v0).alloc (.cells #[.int .i64 0, .int .i64 0] 32) = z := ⟨_, rfl⟩
                  rw [hv5] at c5 N5
                  rw [hv5]
                  rw [hg19] at N5 gz5
                  try rw [hg19]
                  clear hv5 hg19
                  have hT := SS.out v5 (bel_trans hS.1 c5)
                  refine hK.out _ _ (fun _ => hT) ?_
                  clear hS
                  have hS := hT
                  clear hT
                  clear hK K
                  try simp only [Act.put, List.setIfInBounds_toArray, List.set_cons_zero, List.set_cons_succ, List.getElem_toArray, List.getElem_cons_zero, List.getElem_cons_succ]
                  refine anyR_one (i := 11) (by kernel_rfl) rfl ?_
                  intro K hK
                  go_simp
                  go_at_call 16
                  refine (SF.out _).mono ?_
                  rintro _ v1 ⟨rfl, c1⟩
                  have hT := SS.out v1 (bel_trans hS.1 c1)
                  refine hK.out _ _ (fun _ => hT) ?_
                  clear hS
                  have hS := hT
                  clear hT
                  clear hK K
                  try simp only [Act.put, List.setIfInBounds_toArray, List.set_cons_zero, List.set_cons_succ, List.getElem_toArray, List.getElem_cons_zero, List.getElem_cons_succ]
                  refine anyR_take (i := 12) (.tuple #[.agg #[.int .i64 A0, .int .i64 A1], .bool true]) rfl (by kernel_rfl) (by kernel_rfl) (by kernel_rfl) (by kernel_rfl) (fun _ _ _ h => h) (by assumption) ⟨by rfl, ?_⟩ ?_
                  · intro W hW
                    go_simp
                  try simp only [Act.put, List.setIfInBounds_toArray, List.set_cons_zero, List.set_cons_succ, List.getElem_toArray, List.getElem_cons_zero, List.getElem_cons_succ]
                  refine anyR_take (i := 13) (.agg #[.int .i64 A0, .int .i64 A1]) rfl (by kernel_rfl) (by kernel_rfl) (by kernel_rfl) (by kernel_rfl) (fun _ _ _ h => h) (by assumption) ⟨by rfl, ?_⟩ ?_
                  · intro W hW
                    go_simp
                  try simp only [Act.put, List.setIfInBounds_toArray, List.set_cons_zero, List.set_cons_succ, List.getElem_toArray, List.getElem_cons_zero, List.getElem_cons_succ]
                  refine anyR_take (i := 14) (.bool true) rfl (by kernel_rfl) (by kernel_rfl) (by kernel_rfl) (by kernel_rfl) (fun _ _ _ h => h) (by assumption) ⟨by rfl, ?_⟩ ?_
                  · intro W hW
                    go_simp
                  try simp only [Act.put, List.setIfInBounds_toArray, List.set_cons_zero, List.set_cons_succ, List.getElem_toArray, List.getElem_cons_zero, List.getElem_cons_succ]
                  have N6 := Lib.hid (N5.out.below c1)
                  have B6 := Lib.hid hS.1
                  have q0 := N6.out.cells.1
                  have q1 := N6.out.cells.2
                  have f0 := N6.out.free 0
                  have f1 := N6.out.free 1
                  clear hS
                  have GG := Lib.hid ((B6.out.setCell (p := ⟨g19, 0, none⟩) (by omega) (.int .i64 A0)).setCell (p := ⟨g19, 1, none⟩) (by omega) (.int .i64 A1))
                  have hT := SS.out _ GG.out
                  refine anyR_one (i := 16) (by kernel_rfl) rfl ?_
                  intro K hK
                  go_simp
                  refine hK.out _ _ (fun _ => hT) ?_
                  clear hT
                  clear hK K
                  try simp only [Act.put, List.setIfInBounds_toArray, List.set_cons_zero, List.set_cons_succ, List.getElem_toArray, List.getElem_cons_zero, List.getElem_cons_succ]
                  refine anyR_one (i := 17) (by kernel_rfl) rfl ?_
                  intro K hK
                  go_simp
                  refine hK.out _ _ (fun h => absurd h (by decide)) ?_
                  clear hK K
                  try simp only [Act.put, List.setIfInBounds_toArray, List.set_cons_zero, List.set_cons_succ, List.getElem_toArray, List.getElem_cons_zero, List.getElem_cons_succ]
                  refine anyR_done (by kernel_rfl) ?_ _
                  refine NoPanic.normal ?_
                  obtain ⟨p1, g1⟩ := N6.out.set0 (.int .i64 A0)
                  obtain ⟨p2, g2⟩ := p1.set1 (.int .i64 A1)
                  have P2 := Lib.hid p2
                  clear p1 g1 p2 g2 q0 q1 f0 f1
                  go_wp2_with fail
                  go_meet
                  case rel => exact ⟨g19, rfl, rfl, by omega, P2.out, GG.out⟩
              case rest =>
              obtain ⟨g19, rfl, rfl, hg19, hb19, hbw⟩ := hcut
              have D19 := Lib.hid hb19
              have E2 := Lib.hid (EI.out.below hbw)
              have F2 := Lib.hid (FI.out.below hbw)
              have S2 := Lib.hid (SI.out.below hbw)
              have BW2 := Lib.hid (bel_trans BI.out hbw)
              have q0 := hb19.cells.1
              have q1 := hb19.cells.2
              have x2 := E2.out.cells.1
              have x3 := E2.out.cells.2
              have dA := decide_eq_false (show ¬ A0 < 0 by omega)
              have hwz := hbw.size
              clear hb19 hbw SS SF EI FI SI BI
              go_wp2_with fail
              refine (AF.out _).mono ?_
              rintro _ w11 ⟨rfl, b11⟩
              have ba := bel_alloc w11 (.cells #[.int .i64 N', .int .i64 M'] 32)
              have b12 := bel_trans b11 ba
              have D12 := Lib.hid (D19.out.below b12)
              have E12 := Lib.hid (E2.out.below b12)
              have F12 := Lib.hid (F2.out.below b12)
              have S12 := Lib.hid (S2.out.below b12)
              have BW12 := Lib.hid (bel_trans BW2.out b12)
              have N21 := Lib.hid (BO.new 32 w11 (.int .i64 N') (.int .i64 M'))
              clear b11 ba b12 D19 E2 F2 S2 BW2 q0 q1 x2 x3 AF
              go_upto_region 28 with fail
              obtain ⟨g21, hg21⟩ : ∃ z, w11.heap.size = z := ⟨_, rfl⟩
              obtain ⟨w12, hw12⟩ : ∃ z, w11.alloc (.cells #[.int .i64 N', .int .i64 M'] 32) = z := ⟨_, rfl⟩
              rw [hw12, hg21] at N21
              rw [hw12] at D12 E12 F12 S12 BW12
              rw [hw12, hg21]
              clear hw12 hg21
              have q0 := D12.out.cells.1
              have x2 := E12.out.cells.1
              have x3 := E12.out.cells.2
              have f0 := E12.out.free 0
              have f1 := E12.out.free 1
              have n0' := N21.out.cells.1
              have n1' := N21.out.cells.2
              have PB := Lib.hid (show BO 32 ((w12.setCell ⟨g17, 0, none⟩ (.int .i64 N')).setCell ⟨g17, 1, none⟩ (.int .i64 M')) g17 (.int .i64 N') (.int .i64 M') ∧ w12.grownBy ((w12.setCell ⟨g17, 0, none⟩ (.int .i64 N')).setCell ⟨g17, 1, none⟩ (.int .i64 M')) (some g17) from by
                obtain ⟨p1, g1⟩ := E12.out.set0 (.int .i64 N')
                obtain ⟨p2, g2⟩ := p1.set1 (.int .i64 M')
                exact ⟨p2, grown_trans g1 g2⟩)
              have F13 := Lib.hid (F12.out.kept PB.out.2 (.inr (by simp [Value.ownBlock]; omega)))
              have S13 := Lib.hid (S12.out.kept PB.out.2 (.inr (by simp [Value.ownBlock]; omega)))
              have BW13 := Lib.hid ((BW12.out.setCell (p := ⟨g17, 0, none⟩) (by show w5.heap.size ≤ g17; omega) (.int .i64 N')).setCell (p := ⟨g17, 1, none⟩) (by show w5.heap.size ≤ g17; omega) (.int .i64 M'))
              clear D12 F12 S12 BW12 N21 E12
              go_wp2_with fail
              obtain ⟨wB, hwB⟩ : ∃ z, (w12.setCell ⟨g17, 0, none⟩ (.int .i64 N')).setCell ⟨g17, 1, none⟩ (.int .i64 M') = z := ⟨_, rfl⟩
              rw [hwB] at PB F13 S13 BW13
              rw [hwB]
              clear hwB q0 x2 x3 f0 f1 n0' n1'
              have TI := T5.out.below BW13.out
              obtain ⟨gT', eg, _, _, cT0, cT1, _⟩ := TI.at HGT.out
              simp only [Option.some.injEq, Addr.mk.injEq, and_true] at eg
              subst eg
              rw [HP.out.1] at cT0
              rw [HP.out.2] at cT1
              have cv2 : wB.cell? ⟨gS, i, none⟩ = some (.int .i64 (v : Int)) := S13.out.cell (zns_at (by
                have := NX.out
                have h1 : ((supN e.ap (x : Int) n).take (i + 1))[i]? = some v := by
                  rw [this, List.getElem?_append_right (by rw [List.length_take]; omega)]
                  have hl : ((supN e.ap (x : Int) n).take i).length = i := by rw [List.length_take, HLS.out]; omega
                  rw [hl, Nat.sub_self]
                  rfl
                rwa [List.getElem?_take_of_lt (by omega)] at h1))
              have zB := BW13.out.size
              have gTB : gT < wB.heap.size := by omega
              have gSB := (S13.out.block gS rfl).2
              have SS := Lib.hid (fun W (hW : Below wB.heap.size wB W) => (show Below wB.heap.size wB W ∧ W.cell? ⟨gT, k * 2, none⟩ = some (.int .i64 P0) ∧ W.cell? ⟨gT, k * 2 + 1, none⟩ = some (.int .i64 P1) ∧ W.cell? ⟨gS, i, none⟩ = some (.int .i64 (v : Int)) from
                ⟨hW, (hW.cell (p := ⟨gT, k * 2, none⟩) gTB).trans cT0, (hW.cell (p := ⟨gT, k * 2 + 1, none⟩) gTB).trans cT1, (hW.cell (p := ⟨gS, i, none⟩) gSB).trans cv2⟩))
              clear TI cT0 cT1 cv2
              refine wp_region_noPanic ?_
              refine wp_region_R (inFirst (fun W => Below wB.heap.size wB W ∧ W.cell? ⟨gT, k * 2, none⟩ = some (.int .i64 P0) ∧ W.cell? ⟨gT, k * 2 + 1, none⟩ = some (.int .i64 P1) ∧ W.cell? ⟨gS, i, none⟩ = some (.int .i64 (v : Int))) 10) (by kernel_rfl) ?_
              have hS := SS.out wB.drew ⟨rfl, rfl, rfl, Nat.le_refl _, fun _ _ => rfl⟩
              obtain ⟨v0, hv0⟩ : ∃ x, wB.drew = x := ⟨_, rfl⟩
              rw [hv0] at hS
              rw [hv0]
              clear hv0
              have sv0 := hS.1.size
              refine anyR_take (i := 0) (.slice (some ⟨gs, 0, none⟩) n cS) rfl (by kernel_rfl) (by kernel_rfl) (by kernel_rfl) (by kernel_rfl) (fun _ _ _ h => h) (by assumption) ⟨by rfl, ?_⟩ ?_
              · intro W hW
                go_simp
              try simp only [Act.put, List.setIfInBounds_toArray, List.set_cons_zero, List.set_cons_succ, List.getElem_toArray, List.getElem_cons_zero, List.getElem_cons_succ]
              refine anyR_take (i := 1) (.slice (some ⟨gS, 0, none⟩) Ls sc) rfl (by kernel_rfl) (by kernel_rfl) (by kernel_rfl) (by kernel_rfl) (fun _ _ _ h => h) (by assumption) ⟨by rfl, ?_⟩ ?_
              · intro W hW
                go_simp
              try simp only [Act.put, List.setIfInBounds_toArray, List.set_cons_zero, List.set_cons_succ, List.getElem_toArray, List.getElem_cons_zero, List.getElem_cons_succ]
              refine anyR_take (i := 2) (.int .i64 (i : Nat)) rfl (by kernel_rfl) (by kernel_rfl) (by kernel_rfl) (by kernel_rfl) (fun _ _ _ h => h) (by assumption) ⟨by rfl, ?_⟩ ?_
              · intro W hW
                go_simp
              try simp only [Act.put, List.setIfInBounds_toArray, List.set_cons_zero, List.set_cons_succ, List.getElem_toArray, List.getElem_cons_zero, List.getElem_cons_succ]
              refine anyR_take (i := 3) (.pointer (some ⟨gS, i, none⟩)) rfl (by kernel_rfl) (by kernel_rfl) (by kernel_rfl) (by kernel_rfl) (fun _ _ _ h => h) (by assumption) ⟨by rfl, ?_⟩ ?_
              · intro W hW
                go_simp
              try simp only [Act.put, List.setIfInBounds_toArray, List.set_cons_zero, List.set_cons_succ, List.getElem_toArray, List.getElem_cons_zero, List.getElem_cons_succ]
              refine anyR_take (i := 4) (.int .i64 (v : Nat)) rfl (by kernel_rfl) (by kernel_rfl) (by kernel_rfl) (by kernel_rfl) (fun _ _ _ h => h) (by assumption) ⟨by rfl, ?_⟩ ?_
              · intro W hW
                go_simp
              try simp only [Act.put, List.setIfInBounds_toArray, List.set_cons_zero, List.set_cons_succ, List.getElem_toArray, List.getElem_cons_zero, List.getElem_cons_succ]
              refine anyR_take (i := 5) (.slice (some ⟨gT, 0, none⟩) R.length tc) rfl (by kernel_rfl) (by kernel_rfl) (by kernel_rfl) (by kernel_rfl) (fun _ _ _ h => h) (by assumption) ⟨by rfl, ?_⟩ ?_
              · intro W hW
                go_simp
              try simp only [Act.put, List.setIfInBounds_toArray, List.set_cons_zero, List.set_cons_succ, List.getElem_toArray, List.getElem_cons_zero, List.getElem_cons_succ]
              refine anyR_take (i := 6) (.int .i64 (k : Nat)) rfl (by kernel_rfl) (by kernel_rfl) (by kernel_rfl) (by kernel_rfl) (fun _ _ _ h => h) (by assumption) ⟨by rfl, ?_⟩ ?_
              · intro W hW
                go_simp
              try simp only [Act.put, List.setIfInBounds_toArray, List.set_cons_zero, List.set_cons_succ, List.getElem_toArray, List.getElem_cons_zero, List.getElem_cons_succ]
              refine anyR_take (i := 7) (.pointer (some ⟨gT, k * 2, none⟩)) rfl (by kernel_rfl) (by kernel_rfl) (by kernel_rfl) (by kernel_rfl) (fun _ _ _ h => h) (by assumption) ⟨by rfl, ?_⟩ ?_
              · intro W hW
                go_simp
              try simp only [Act.put, List.setIfInBounds_toArray, List.set_cons_zero, List.set_cons_succ, List.getElem_toArray, List.getElem_cons_zero, List.getElem_cons_succ]
              refine anyR_take (i := 8) (.agg #[.int .i64 P0, .int .i64 P1]) rfl (by kernel_rfl) (by kernel_rfl) (by kernel_rfl) (by kernel_rfl) (fun _ _ _ h => h) (by assumption) ⟨by rfl, ?_⟩ ?_
              · intro W hW
                go_simp
              try simp only [Act.put, List.setIfInBounds_toArray, List.set_cons_zero, List.set_cons_succ, List.getElem_toArray, List.getElem_cons_zero, List.getElem_cons_succ]
              refine anyR_take (i := 9) (.pointer (some ⟨gs, v * 2, none⟩)) rfl (by kernel_rfl) (by kernel_rfl) (by kernel_rfl) (by kernel_rfl) (fun _ _ _ h => h) (by assumption) ⟨by rfl, ?_⟩ ?_
              · intro W hW
                go_simp
              try simp only [Act.put, List.setIfInBounds_toArray, List.set_cons_zero, List.set_cons_succ, List.getElem_toArray, List.getElem_cons_zero, List.getElem_cons_succ]
              have FV := Lib.hid (F13.out.below hS.1)
              have EV2 := Lib.hid (PB.out.1.below hS.1)
              have SV2 := Lib.hid (S13.out.below hS.1)
              have BV2 := Lib.hid (bel_trans BW13.out hS.1)
              obtain ⟨gs', eg, _, _, q0, q1, fz⟩ := FV.out.at HVS.out
              simp only [Option.some.injEq, Addr.mk.injEq, and_true] at eg
              subst eg
              have f0 := fz (v * 2)
              have f1 := fz (v * 2 + 1)
              have PT := Lib.hid (FV.out.put (t := t) HVS.out)
              rw [HP.out.1, HP.out.2, slI_snoc, ← NX.out] at PT
              clear hS SS fz
              refine anyR_one (i := 10) (by kernel_rfl) rfl ?_
              intro K hK
              go_simp
              refine hK.out _ _ (fun h => absurd h (by decide)) ?_
              clear hK K
              try simp only [Act.put, List.setIfInBounds_toArray, List.set_cons_zero, List.set_cons_succ, List.getElem_toArray, List.getElem_cons_zero, List.getElem_cons_succ]
              refine anyR_done (by kernel_rfl) ?_ _
              refine NoPanic.normal ?_
              have EV3 := Lib.hid (EV2.out.far PT.out.2 (by omega))
              have SV3 := Lib.hid (SV2.out.kept PT.out.2 (.inr (by simp [Value.ownBlock]; omega)))
              have BV3 := Lib.hid (BV2.out.grown PT.out.2 BV2.out.size (fun x hx => by injection hx with hx; omega))
              clear q0 q1 f0 f1
              go_wp2_with fail
              go_roundw
              case rel => exact ⟨i + 1, N', M', by omega, by go_num, EV3.out, NM', PT.out.1, SV3.out, BV3.out⟩
              case measure => simp [intOf]; omega
            · obtain rfl : Ls = i := by omega
              have d1 := decide_eq_false (show ¬ (Ls : Int) < (Ls : Int) by omega)
              obtain ⟨bc, oC, c, rfl, hbc, hcc, c0, c1, hcz⟩ := HE5.out.c.at xm
              have GD := Lib.hid (show e.cs.getD x 0 = c by rw [List.getD_eq_getElem?_getD, hcz.out]; rfl)
              have TA : ernS e.ap (rk R k) t ((supN e.ap (x : Int) n).take Ls) = c * D := by
                rw [List.take_of_length_le (Nat.le_of_eq HLS.out), ← hn, TS.out.all, GD.out]
              have NM2 := NM.out
              rw [TA, (red_whole c HS.out.d1).1, (red_whole c HS.out.d1).2] at NM2
              obtain ⟨rfl, rfl⟩ := NM2
              have cB := OK.out.costx (show x < e.cs.length by omega)
              rw [GD.out] at cB
              have FA := FI.out
              rw [List.take_of_length_le (Nat.le_of_eq HLS.out), slI_all, ← HRS.out] at FA
              have FAH := Lib.hid FA
              have CW := CE5.out.below BI.out
              have y1 := CW.cell 1 rfl
              have OW := O5.out.below BI.out
              have cO := OW.cell (zns_at HGX.out)
              have cc := (BI.out.cell (p := ⟨bc, oC + x, none⟩) hbc).trans hcc
              have x2 := EI.out.cells.1
              have x3 := EI.out.cells.2
              have TI := T5.out.below BI.out
              obtain ⟨gT', eg, _, _, cT0, cT1, _⟩ := TI.at HGT.out
              simp only [Option.some.injEq, Addr.mk.injEq, and_true] at eg
              subst eg
              rw [HP.out.1] at cT0
              rw [HP.out.2] at cT1
              have dx0 := decide_eq_false (show ¬ (x : Int) < 0 by omega)
              have dxm := decide_eq_false (show ¬ (m : Int) ≤ (x : Int) by omega)
              have dxm2 := decide_eq_false (show ¬ m ≤ x by omega)
              have m1 : ((1 : Int) != 1) = false := rfl
              have m2 : (N != N) = false := by simp
              have lb := costR_bd OK.out (rk R k)
              have ln := costR_nonneg OK.out (rk R k)
              rw [rk_len (by omega)] at lb
              have mon := OK.out.mon
              have NXT := Lib.hid (show e.mon - costR e.cs (rk R k) - N = e.mon - costR e.cs (rk R (k + 1)) by rw [costR_step HRS.out, GD.out]; omega)
              obtain ⟨L0, hL0⟩ : ∃ z, e.mon - costR e.cs (rk R k) = z := ⟨_, rfl⟩
              have WL : IntKind.i64.wrap (L0 - N) = L0 - N := IntWalk.i64_in _ (by omega)
              rw [hL0] at NXT ⊢
              clear TA FA CW OW TI hcc hcz NM FI SI hL0 ln lb mon hi
              have gOI : gO < wr.heap.size := by omega
              have geI : ge < wr.heap.size := Nat.lt_of_lt_of_le CE5.out.1 zI
              go_wp2_with fail
              go_quiet (fail)
              have bq := below_drewN (Below.refl wr.heap.size wr) nq
              obtain ⟨wQ, hwQ⟩ : ∃ z, wr.drewN nq = z := ⟨_, rfl⟩
              rw [hwQ] at bq ⊢
              clear hwQ
              have y1 := (bq.cell (p := ⟨ge, 1, none⟩) geI).trans y1
              have cO := (bq.cell (p := ⟨gO, k, none⟩) gOI).trans cO
              have cc := (bq.cell (p := ⟨bc, oC + x, none⟩) (by show bc < wr.heap.size; omega)).trans cc
              have cT0 := (bq.cell (p := ⟨gT, k * 2, none⟩) (by show gT < wr.heap.size; omega)).trans cT0
              have cT1 := (bq.cell (p := ⟨gT, k * 2 + 1, none⟩) (by show gT < wr.heap.size; omega)).trans cT1
              have FQ := Lib.hid (FAH.out.below bq)
              have BQ := Lib.hid (bel_trans BI.out bq)
              have zq := bq.size
              clear bq x2 x3 FAH
              go_wp2_with fail
              go_quiet (fail)
              have bq := below_drewN (Below.refl wQ.heap.size wQ) nq
              obtain ⟨wC, hwC⟩ : ∃ z, wQ.drewN nq = z := ⟨_, rfl⟩
              rw [hwC] at bq ⊢
              clear hwC
              have cT0 := (bq.cell (p := ⟨gT, k * 2, none⟩) (by show gT < wQ.heap.size; omega)).trans cT0
              have cT1 := (bq.cell (p := ⟨gT, k * 2 + 1, none⟩) (by show gT < wQ.heap.size; omega)).trans cT1
              have FC := Lib.hid (FQ.out.below bq)
              have BC := Lib.hid (bel_trans BQ.out bq)
              have zc := bq.size
              clear bq y1 cO cc FQ BQ m1 m2
              by_cases hk0 : 0 < k
              · have dk := decide_eq_true hk0
                have dk2 := decide_eq_true (show (0 : Int) < (k : Int) by omega)
                have LT := rk_last hk0 hk
                have TI := T5.out.below BC.out
                obtain ⟨gT', eg, _, _, cZ0, cZ1, _⟩ := TI.at LT
                simp only [Option.some.injEq, Addr.mk.injEq, and_true] at eg
                subst eg
                have D1 := HS.out.d1
                have D2 := HS.out.db OK.out
                have T0 := TS.out.t0
                have T1 := TS.out.t1
                have TL := TS.out.last
                have L00 := TS.out.l0
                have CM0 := fun W => cmpF_ok (va_D L00 (by omega) D1 D2) (va_D T0 (by omega) D1 D2) W
                obtain ⟨q, hq⟩ : ∃ q, cmpI (lastT (rk R k)) t = q := ⟨_, rfl⟩
                have q0 : q ≤ 0 := by
                  rw [← hq]
                  unfold cmpI
                  split
                  · omega
                  · rw [if_neg (by omega)]; omega
                obtain ⟨Z0, hZ0⟩ : ∃ z, redN (lastT (rk R k)) D = z := ⟨_, rfl⟩
                obtain ⟨Z1, hZ1⟩ : ∃ z, redD (lastT (rk R k)) D = z := ⟨_, rfl⟩
                unfold FV at CM0
                rw [hq, hZ0, hZ1, HP.out.1, HP.out.2] at CM0
                rw [hZ0] at cZ0
                rw [hZ1] at cZ1
                have CM := Lib.hid CM0
                have dq := decide_eq_false (show ¬ 0 < q by omega)
                have gTC : gT < wC.heap.size := by omega
                have wk : IntKind.i64.wrap ((k : Int) - 1) = ((k - 1 : Nat) : Int) := by rw [IntWalk.i64_in _ (by omega)]; omega
                have km0 : (0 : Int) ≤ ((k - 1 : Nat) : Int) := by omega
                have km1 : ((k - 1 : Nat) : Int) < (R.length : Int) := by omega
                have SS := Lib.hid (fun W (hW : Below wC.heap.size wC W) => (show Below wC.heap.size wC W ∧ W.cell? ⟨gT, k * 2, none⟩ = some (.int .i64 P0) ∧ W.cell? ⟨gT, k * 2 + 1, none⟩ = some (.int .i64 P1) ∧ W.cell? ⟨gT, (k - 1) * 2, none⟩ = some (.int .i64 Z0) ∧ W.cell? ⟨gT, (k - 1) * 2 + 1, none⟩ = some (.int .i64 Z1) from
                  ⟨hW, (hW.cell (p := ⟨gT, k * 2, none⟩) gTC).trans cT0, (hW.cell (p := ⟨gT, k * 2 + 1, none⟩) gTC).trans cT1, (hW.cell (p := ⟨gT, (k - 1) * 2, none⟩) gTC).trans cZ0, (hW.cell (p := ⟨gT, (k - 1) * 2 + 1, none⟩) gTC).trans cZ1⟩))
                clear LT TI D1 D2 T0 T1 TL L00 CM0 hq hZ0 hZ1 cT0 cT1 cZ0 cZ1
                go_wp2_with fail
                refine wp_region_noPanic ?_
                refine wp_region_R (inFirst (fun W => Below wC.heap.size wC W ∧ W.cell? ⟨gT, k * 2, none⟩ = some (.int .i64 P0) ∧ W.cell? ⟨gT, k * 2 + 1, none⟩ = some (.int .i64 P1) ∧ W.cell? ⟨gT, (k - 1) * 2, none⟩ = some (.int .i64 Z0) ∧ W.cell? ⟨gT, (k - 1) * 2 + 1, none⟩ = some (.int .i64 Z1)) 15) (by kernel_rfl) ?_
                have hS := SS.out wC.drew ⟨rfl, rfl, rfl, Nat.le_refl _, fun _ _ => rfl⟩
                obtain ⟨v0, hv0⟩ : ∃ x, wC.drew = x := ⟨_, rfl⟩
                rw [hv0] at hS
                rw [hv0]
                clear hv0
                have sv0 := hS.1.size
                refine anyR_take (i := 0) (.slice (some ⟨gT, 0, none⟩) R.length tc) rfl (by kernel_rfl) (by kernel_rfl) (by kernel_rfl) (by kernel_rfl) (fun _ _ _ h => h) (by assumption) ⟨by rfl, ?_⟩ ?_
                · intro W hW
                  go_simp
                try simp only [Act.put, List.setIfInBounds_toArray, List.set_cons_zero, List.set_cons_succ, List.getElem_toArray, List.getElem_cons_zero, List.getElem_cons_succ]
                refine anyR_take (i := 1) (.int .i64 (k : Nat)) rfl (by kernel_rfl) (by kernel_rfl) (by kernel_rfl) (by kernel_rfl) (fun _ _ _ h => h) (by assumption) ⟨by rfl, ?_⟩ ?_
                · intro W hW
                  go_simp
                try simp only [Act.put, List.setIfInBounds_toArray, List.set_cons_zero, List.set_cons_succ, List.getElem_toArray, List.getElem_cons_zero, List.getElem_cons_succ]
                refine anyR_take (i := 2) (.int .i64 (k - 1 : Nat)) rfl (by kernel_rfl) (by kernel_rfl) (by kernel_rfl) (by kernel_rfl) (fun _ _ _ h => h) (by assumption) ⟨by rfl, ?_⟩ ?_
                · intro W hW
                  go_simp
                try simp only [Act.put, List.setIfInBounds_toArray, List.set_cons_zero, List.set_cons_succ, List.getElem_toArray, List.getElem_cons_zero, List.getElem_cons_succ]
                refine anyR_take (i := 3) (.pointer (some ⟨gT, (k - 1) * 2, none⟩)) rfl (by kernel_rfl) (by kernel_rfl) (by kernel_rfl) (by kernel_rfl) (fun _ _ _ h => h) (by assumption) ⟨by rfl, ?_⟩ ?_
                · intro W hW
                  go_simp
                try simp only [Act.put, List.setIfInBounds_toArray, List.set_cons_zero, List.set_cons_succ, List.getElem_toArray, List.getElem_cons_zero, List.getElem_cons_succ]
                refine anyR_take (i := 4) (.agg #[.int .i64 Z0, .int .i64 Z1]) rfl (by kernel_rfl) (by kernel_rfl) (by kernel_rfl) (by kernel_rfl) (fun _ _ _ h => h) (by assumption) ⟨by rfl, ?_⟩ ?_
                · intro W hW
                  go_simp
                try simp only [Act.put, List.setIfInBounds_toArray, List.set_cons_zero, List.set_cons_succ, List.getElem_toArray, List.getElem_cons_zero, List.getElem_cons_succ]
                refine anyR_take (i := 5) (.slice (some ⟨gT, 0, none⟩) R.length tc) rfl (by kernel_rfl) (by kernel_rfl) (by kernel_rfl) (by kernel_rfl) (fun _ _ _ h => h) (by assumption) ⟨by rfl, ?_⟩ ?_
                · intro W hW
                  go_simp
                try simp only [Act.put, List.setIfInBounds_toArray, List.set_cons_zero, List.set_cons_succ, List.getElem_toArray, List.getElem_cons_zero, List.getElem_cons_succ]
                refine anyR_take (i := 6) (.int .i64 (k : Nat)) rfl (by kernel_rfl) (by kernel_rfl) (by kernel_rfl) (by kernel_rfl) (fun _ _ _ h => h) (by assumption) ⟨by rfl, ?_⟩ ?_
                · intro W hW
                  go_simp
                try simp only [Act.put, List.setIfInBounds_toArray, List.set_cons_zero, List.set_cons_succ, List.getElem_toArray, List.getElem_cons_zero, List.getElem_cons_succ]
                refine anyR_take (i := 7) (.pointer (some ⟨gT, k * 2, none⟩)) rfl (by kernel_rfl) (by kernel_rfl) (by kernel_rfl) (by kernel_rfl) (fun _ _ _ h => h) (by assumption) ⟨by rfl, ?_⟩ ?_
                · intro W hW
                  go_simp
                try simp only [Act.put, List.setIfInBounds_toArray, List.set_cons_zero, List.set_cons_succ, List.getElem_toArray, List.getElem_cons_zero, List.getElem_cons_succ]
                refine anyR_take (i := 8) (.agg #[.int .i64 P0, .int .i64 P1]) rfl (by kernel_rfl) (by kernel_rfl) (by kernel_rfl) (by kernel_rfl) (fun _ _ _ h => h) (by assumption) ⟨by rfl, ?_⟩ ?_
                · intro W hW
                  go_simp
                try simp only [Act.put, List.setIfInBounds_toArray, List.set_cons_zero, List.set_cons_succ, List.getElem_toArray, List.getElem_cons_zero, List.getElem_cons_succ]
                refine anyR_one (i := 9) (by kernel_rfl) rfl ?_
                intro K hK
                go_simp
                go_at_call 10
                refine (CM.out _).mono ?_
                rintro _ w9 ⟨rfl, b9⟩
                have hT := SS.out w9 (bel_trans hS.1 b9)
                refine hK.out _ _ (fun _ => hT) ?_
                clear hS b9
                have hS := hT
                clear hT
                clear hK K
                try simp only [Act.put, List.setIfInBounds_toArray, List.set_cons_zero, List.set_cons_succ, List.getElem_toArray, List.getElem_cons_zero, List.getElem_cons_succ]
                refine anyR_take (i := 10) (.tuple #[.int .i64 q, .bool true]) rfl (by kernel_rfl) (by kernel_rfl) (by kernel_rfl) (by kernel_rfl) (fun _ _ _ h => h) (by assumption) ⟨by rfl, ?_⟩ ?_
                · intro W hW
                  go_simp
                try simp only [Act.put, List.setIfInBounds_toArray, List.set_cons_zero, List.set_cons_succ, List.getElem_toArray, List.getElem_cons_zero, List.getElem_cons_succ]
                refine anyR_take (i := 11) (.int .i64 q) rfl (by kernel_rfl) (by kernel_rfl) (by kernel_rfl) (by kernel_rfl) (fun _ _ _ h => h) (by assumption) ⟨by rfl, ?_⟩ ?_
                · intro W hW
                  go_simp
                try simp only [Act.put, List.setIfInBounds_toArray, List.set_cons_zero, List.set_cons_succ, List.getElem_toArray, List.getElem_cons_zero, List.getElem_cons_succ]
                refine anyR_take (i := 12) (.bool true) rfl (by kernel_rfl) (by kernel_rfl) (by kernel_rfl) (by kernel_rfl) (fun _ _ _ h => h) (by assumption) ⟨by rfl, ?_⟩ ?_
                · intro W hW
                  go_simp
                try simp only [Act.put, List.setIfInBounds_toArray, List.set_cons_zero, List.set_cons_succ, List.getElem_toArray, List.getElem_cons_zero, List.getElem_cons_succ]
                refine anyR_take (i := 13) (.int .i64 q) rfl (by kernel_rfl) (by kernel_rfl) (by kernel_rfl) (by kernel_rfl) (fun _ _ _ h => h) (by assumption) ⟨by rfl, ?_⟩ ?_
                · intro W hW
                  go_simp
                try simp only [Act.put, List.setIfInBounds_toArray, List.set_cons_zero, List.set_cons_succ, List.getElem_toArray, List.getElem_cons_zero, List.getElem_cons_succ]
                refine anyR_take (i := 14) (.bool true) rfl (by kernel_rfl) (by kernel_rfl) (by kernel_rfl) (by kernel_rfl) (fun _ _ _ h => h) (by assumption) ⟨by rfl, ?_⟩ ?_
                · intro W hW
                  go_simp
                try simp only [Act.put, List.setIfInBounds_toArray, List.set_cons_zero, List.set_cons_succ, List.getElem_toArray, List.getElem_cons_zero, List.getElem_cons_succ]
                refine anyR_done (by kernel_rfl) ?_ _
                refine NoPanic.normal ?_
                have B9 := Lib.hid hS.1
                clear hS SS
                have FD := Lib.hid (FC.out.below B9.out)
                have BD := Lib.hid (bel_trans BC.out B9.out)
                go_wp2_with fail
                go_roundw
                case rel => exact ⟨k + 1, by omega, by rw [NXT.out], by go_num, FD.out, BD.out⟩
                case measure => simp [intOf]; omega
              · have dk := decide_eq_false hk0
                have dk2 := decide_eq_false (show ¬ (0 : Int) < (k : Int) by omega)
                go_wp2_with fail
                go_roundw
                case rel => exact ⟨k + 1, by omega, by rw [NXT.out], by go_num, FC.out, BC.out⟩
                case measure => simp [intOf]; omega
        · obtain rfl : R.length = k := by omega
          have d0 := decide_eq_false (show ¬ (R.length : Int) < (R.length : Int) by omega)
          have LFN := HS.out.l0
          rw [HS.out.hlf] at LFN
          rw [rk_all]
          obtain ⟨L0, hL0⟩ : ∃ z, e.mon - costR e.cs R = z := ⟨_, rfl⟩
          rw [hL0] at LFN ⊢
          have dL := decide_eq_true LFN
          have HGZ := Lib.hid (fun W (hW : Below w5.heap.size w5 W) => HG.out.below hW)
          have HGL := Lib.hid (show gz.length = Lg from HG.out.len)
          clear hL0 OK5 TK SK
          go_wp2_with fail
          go_loopw [25] (fun s25 wr => ∃ i : Nat, i ≤ Lg ∧ s25 = .int .i64 i ∧ Below w5.heap.size w5 wr) (fun t _ => Lg - (intOf t).toNat)
          case atStart => exact ⟨0, Nat.zero_le _, rfl, BK.out⟩
          case round =>
            obtain ⟨i, hi, rfl, hb⟩ := hrel
            have BI := Lib.hid hb
            have zI := hb.size
            clear hb BK
            by_cases hil : i < Lg
            · have d1 := decide_eq_true (show (i : Int) < (Lg : Int) by omega)
              obtain ⟨z, hz⟩ : ∃ z, gz[i]? = some z := ⟨_, List.getElem?_eq_getElem (by rw [HGL.out]; exact hil)⟩
              have zb := GM.out z (List.mem_of_getElem? hz)
              obtain ⟨gG, rfl, _, gGl⟩ := HG.out.form (by omega)
              have cz := (HGZ.out wr BI.out).cell hz
              have gGw : gG < wr.heap.size := by omega
              have CW := CE5.out.below BI.out
              have FR := Lib.hid (show (gz.take i).any (· == z) = false from by
                rw [List.any_eq_false]
                intro y hy
                obtain ⟨j, hj⟩ := List.mem_iff_getElem?.1 hy
                have hji : j < i := by
                  have := (List.getElem?_eq_some_iff.1 hj).1
                  rw [List.length_take] at this
                  omega
                rw [List.getElem?_take_of_lt hji] at hj
                obtain ⟨a1, a2⟩ := List.getElem?_eq_some_iff.1 hj
                obtain ⟨b1, b2⟩ := List.getElem?_eq_some_iff.1 hz
                have := (List.pairwise_iff_getElem.1 GN.out) j i a1 b1 hji
                rw [a2, b2] at this
                simpa using this)
              have BH := Lib.hid (fun W (hW : Below wr.heap.size wr W) => b10Has_any (some ⟨gG, 0, none⟩) i gc (gz.take i) z W (((HGZ.out wr BI.out).below hW).ints.front (by omega)))
              rw [FR.out] at BH
              have i0 : (0 : Int) ≤ (i : Int) := by omega
              have i1 : (i : Int) < (Lg : Int) := by omega
              have igc : (i : Int) ≤ (gc : Int) := by have := (HGZ.out wr BI.out).ints.2.1; omega
              have igc' : i ≤ gc := by omega
              have dz0 := decide_eq_false (show ¬ z < 0 by omega)
              have dzm := decide_eq_false (show ¬ (m : Int) ≤ z by omega)
              have SS := Lib.hid (fun W (hW : Below wr.heap.size wr W) => (show Below wr.heap.size wr W ∧ W.cell? ⟨gG, i, none⟩ = some (.int .i64 z) ∧ W.cell? ⟨ge, 1, none⟩ = some (.slice CA m cc) from
                ⟨hW, (hW.cell (p := ⟨gG, i, none⟩) gGw).trans cz, (CW.below hW).cell 1 rfl⟩))
              clear hz cz CW
              go_wp2_with fail
              refine wp_region_noPanic ?_
              refine wp_region_R (inFirst (fun W => Below wr.heap.size wr W ∧ W.cell? ⟨gG, i, none⟩ = some (.int .i64 z) ∧ W.cell? ⟨ge, 1, none⟩ = some (.slice CA m cc)) 25) (by kernel_rfl) ?_
              have hS := SS.out wr.drew ⟨rfl, rfl, rfl, Nat.le_refl _, fun _ _ => rfl⟩
              obtain ⟨v0, hv0⟩ : ∃ x, wr.drew = x := ⟨_, rfl⟩
              rw [hv0] at hS
              rw [hv0]
              clear hv0
              have sv0 := hS.1.size
              refine anyR_take (i := 0) (.slice (some ⟨gG, 0, none⟩) Lg gc) rfl (by kernel_rfl) (by kernel_rfl) (by kernel_rfl) (by kernel_rfl) (fun _ _ _ h => h) (by assumption) ⟨by rfl, ?_⟩ ?_
              · intro W hW
                go_simp
              try simp only [Act.put, List.setIfInBounds_toArray, List.set_cons_zero, List.set_cons_succ, List.getElem_toArray, List.getElem_cons_zero, List.getElem_cons_succ]
              refine anyR_take (i := 1) (.int .i64 (i : Nat)) rfl (by kernel_rfl) (by kernel_rfl) (by kernel_rfl) (by kernel_rfl) (fun _ _ _ h => h) (by assumption) ⟨by rfl, ?_⟩ ?_
              · intro W hW
                go_simp
              try simp only [Act.put, List.setIfInBounds_toArray, List.set_cons_zero, List.set_cons_succ, List.getElem_toArray, List.getElem_cons_zero, List.getElem_cons_succ]
              refine anyR_take (i := 2) (.pointer (some ⟨gG, i, none⟩)) rfl (by kernel_rfl) (by kernel_rfl) (by kernel_rfl) (by kernel_rfl) (fun _ _ _ h => h) (by assumption) ⟨by rfl, ?_⟩ ?_
              · intro W hW
                go_simp
              try simp only [Act.put, List.setIfInBounds_toArray, List.set_cons_zero, List.set_cons_succ, List.getElem_toArray, List.getElem_cons_zero, List.getElem_cons_succ]
              refine anyR_take (i := 3) (.int .i64 z) rfl (by kernel_rfl) (by kernel_rfl) (by kernel_rfl) (by kernel_rfl) (fun _ _ _ h => h) (by assumption) ⟨by rfl, ?_⟩ ?_
              · intro W hW
                go_simp
              try simp only [Act.put, List.setIfInBounds_toArray, List.set_cons_zero, List.set_cons_succ, List.getElem_toArray, List.getElem_cons_zero, List.getElem_cons_succ]
              refine anyR_take (i := 4) (.bool false) rfl (by kernel_rfl) (by kernel_rfl) (by kernel_rfl) (by kernel_rfl) (fun _ _ _ h => h) (by assumption) ⟨by rfl, ?_⟩ ?_
              · intro W hW
                go_simp
              try simp only [Act.put, List.setIfInBounds_toArray, List.set_cons_zero, List.set_cons_succ, List.getElem_toArray, List.getElem_cons_zero, List.getElem_cons_succ]
              refine anyR_take (i := 5) (.bool false) rfl (by kernel_rfl) (by kernel_rfl) (by kernel_rfl) (by kernel_rfl) (fun _ _ _ h => h) (by assumption) ⟨by rfl, ?_⟩ ?_
              · intro W hW
                go_simp
              try simp only [Act.put, List.setIfInBounds_toArray, List.set_cons_zero, List.set_cons_succ, List.getElem_toArray, List.getElem_cons_zero, List.getElem_cons_succ]
              refine anyR_take (i := 6) (.slice (some ⟨gG, 0, none⟩) Lg gc) rfl (by kernel_rfl) (by kernel_rfl) (by kernel_rfl) (by kernel_rfl) (fun _ _ _ h => h) (by assumption) ⟨by rfl, ?_⟩ ?_
              · intro W hW
                go_simp
              try simp only [Act.put, List.setIfInBounds_toArray, List.set_cons_zero, List.set_cons_succ, List.getElem_toArray, List.getElem_cons_zero, List.getElem_cons_succ]
              refine anyR_take (i := 7) (.int .i64 (i : Nat)) rfl (by kernel_rfl) (by kernel_rfl) (by kernel_rfl) (by kernel_rfl) (fun _ _ _ h => h) (by assumption) ⟨by rfl, ?_⟩ ?_
              · intro W hW
                go_simp
              try simp only [Act.put, List.setIfInBounds_toArray, List.set_cons_zero, List.set_cons_succ, List.getElem_toArray, List.getElem_cons_zero, List.getElem_cons_succ]
              refine anyR_take (i := 8) (.pointer (some ⟨gG, i, none⟩)) rfl (by kernel_rfl) (by kernel_rfl) (by kernel_rfl) (by kernel_rfl) (fun _ _ _ h => h) (by assumption) ⟨by rfl, ?_⟩ ?_
              · intro W hW
                go_simp
              try simp only [Act.put, List.setIfInBounds_toArray, List.set_cons_zero, List.set_cons_succ, List.getElem_toArray, List.getElem_cons_zero, List.getElem_cons_succ]
              refine anyR_take (i := 9) (.int .i64 z) rfl (by kernel_rfl) (by kernel_rfl) (by kernel_rfl) (by kernel_rfl) (fun _ _ _ h => h) (by assumption) ⟨by rfl, ?_⟩ ?_
              · intro W hW
                go_simp
              try simp only [Act.put, List.setIfInBounds_toArray, List.set_cons_zero, List.set_cons_succ, List.getElem_toArray, List.getElem_cons_zero, List.getElem_cons_succ]
              refine anyR_take (i := 10) (.pointer (some ⟨ge, 1, none⟩)) rfl (by kernel_rfl) (by kernel_rfl) (by kernel_rfl) (by kernel_rfl) (fun _ _ _ h => h) (by assumption) ⟨by rfl, ?_⟩ ?_
              · intro W hW
                go_simp
              try simp only [Act.put, List.setIfInBounds_toArray, List.set_cons_zero, List.set_cons_succ, List.getElem_toArray, List.getElem_cons_zero, List.getElem_cons_succ]
              refine anyR_take (i := 11) (.slice CA m cc) rfl (by kernel_rfl) (by kernel_rfl) (by kernel_rfl) (by kernel_rfl) (fun _ _ _ h => h) (by assumption) ⟨by rfl, ?_⟩ ?_
              · intro W hW
                go_simp
              try simp only [Act.put, List.setIfInBounds_toArray, List.set_cons_zero, List.set_cons_succ, List.getElem_toArray, List.getElem_cons_zero, List.getElem_cons_succ]
              refine anyR_take (i := 12) (.int .i64 (m : Nat)) rfl (by kernel_rfl) (by kernel_rfl) (by kernel_rfl) (by kernel_rfl) (fun _ _ _ h => h) (by assumption) ⟨by rfl, ?_⟩ ?_
              · intro W hW
                go_simp
              try simp only [Act.put, List.setIfInBounds_toArray, List.set_cons_zero, List.set_cons_succ, List.getElem_toArray, List.getElem_cons_zero, List.getElem_cons_succ]
              refine anyR_take (i := 13) (.bool false) rfl (by kernel_rfl) (by kernel_rfl) (by kernel_rfl) (by kernel_rfl) (fun _ _ _ h => h) (by assumption) ⟨by rfl, ?_⟩ ?_
              · intro W hW
                go_simp
              try simp only [Act.put, List.setIfInBounds_toArray, List.set_cons_zero, List.set_cons_succ, List.getElem_toArray, List.getElem_cons_zero, List.getElem_cons_succ]
              refine anyR_take (i := 14) (.bool false) rfl (by kernel_rfl) (by kernel_rfl) (by kernel_rfl) (by kernel_rfl) (fun _ _ _ h => h) (by assumption) ⟨by rfl, ?_⟩ ?_
              · intro W hW
                go_simp
              try simp only [Act.put, List.setIfInBounds_toArray, List.set_cons_zero, List.set_cons_succ, List.getElem_toArray, List.getElem_cons_zero, List.getElem_cons_succ]
              refine anyR_take (i := 15) (.bool false) rfl (by kernel_rfl) (by kernel_rfl) (by kernel_rfl) (by kernel_rfl) (fun _ _ _ h => h) (by assumption) ⟨by rfl, ?_⟩ ?_
              · intro W hW
                go_simp
              try simp only [Act.put, List.setIfInBounds_toArray, List.set_cons_zero, List.set_cons_succ, List.getElem_toArray, List.getElem_cons_zero, List.getElem_cons_succ]
              refine anyR_take (i := 16) (.slice (some ⟨gG, 0, none⟩) Lg gc) rfl (by kernel_rfl) (by kernel_rfl) (by kernel_rfl) (by kernel_rfl) (fun _ _ _ h => h) (by assumption) ⟨by rfl, ?_⟩ ?_
              · intro W hW
                go_simp
              try simp only [Act.put, List.setIfInBounds_toArray, List.set_cons_zero, List.set_cons_succ, List.getElem_toArray, List.getElem_cons_zero, List.getElem_cons_succ]
              refine anyR_take (i := 17) (.int .i64 (i : Nat)) rfl (by kernel_rfl) (by kernel_rfl) (by kernel_rfl) (by kernel_rfl) (fun _ _ _ h => h) (by assumption) ⟨by rfl, ?_⟩ ?_
              · intro W hW
                go_simp
              try simp only [Act.put, List.setIfInBounds_toArray, List.set_cons_zero, List.set_cons_succ, List.getElem_toArray, List.getElem_cons_zero, List.getElem_cons_succ]
              refine anyR_take (i := 18) (.slice (some ⟨gG, 0, none⟩) i gc) rfl (by kernel_rfl) (by kernel_rfl) (by kernel_rfl) (by kernel_rfl) (fun _ _ _ h => h) (by assumption) ⟨by rfl, ?_⟩ ?_
              · intro W hW
                go_simp
              try simp only [Act.put, List.setIfInBounds_toArray, List.set_cons_zero, List.set_cons_succ, List.getElem_toArray, List.getElem_cons_zero, List.getElem_cons_succ]
              refine anyR_take (i := 19) (.slice (some ⟨gG, 0, none⟩) Lg gc) rfl (by kernel_rfl) (by kernel_rfl) (by kernel_rfl) (by kernel_rfl) (fun _ _ _ h => h) (by assumption) ⟨by rfl, ?_⟩ ?_
              · intro W hW
                go_simp
              try simp only [Act.put, List.setIfInBounds_toArray, List.set_cons_zero, List.set_cons_succ, List.getElem_toArray, List.getElem_cons_zero, List.getElem_cons_succ]
              refine anyR_take (i := 20) (.int .i64 (i : Nat)) rfl (by kernel_rfl) (by kernel_rfl) (by kernel_rfl) (by kernel_rfl) (fun _ _ _ h => h) (by assumption) ⟨by rfl, ?_⟩ ?_
              · intro W hW
                go_simp
              try simp only [Act.put, List.setIfInBounds_toArray, List.set_cons_zero, List.set_cons_succ, List.getElem_toArray, List.getElem_cons_zero, List.getElem_cons_succ]
              refine anyR_take (i := 21) (.pointer (some ⟨gG, i, none⟩)) rfl (by kernel_rfl) (by kernel_rfl) (by kernel_rfl) (by kernel_rfl) (fun _ _ _ h => h) (by assumption) ⟨by rfl, ?_⟩ ?_
              · intro W hW
                go_simp
              try simp only [Act.put, List.setIfInBounds_toArray, List.set_cons_zero, List.set_cons_succ, List.getElem_toArray, List.getElem_cons_zero, List.getElem_cons_succ]
              refine anyR_take (i := 22) (.int .i64 z) rfl (by kernel_rfl) (by kernel_rfl) (by kernel_rfl) (by kernel_rfl) (fun _ _ _ h => h) (by assumption) ⟨by rfl, ?_⟩ ?_
              · intro W hW
                go_simp
              try simp only [Act.put, List.setIfInBounds_toArray, List.set_cons_zero, List.set_cons_succ, List.getElem_toArray, List.getElem_cons_zero, List.getElem_cons_succ]
              refine anyR_one (i := 23) (by kernel_rfl) rfl ?_
              intro K hK
              go_simp
              go_at_call 11
              refine (BH.out _ hS.1).mono ?_
              rintro _ w9 ⟨rfl, rfl⟩
              refine hK.out _ _ (fun _ => hS) ?_
              clear hK K
              try simp only [Act.put, List.setIfInBounds_toArray, List.set_cons_zero, List.set_cons_succ, List.getElem_toArray, List.getElem_cons_zero, List.getElem_cons_succ]
              refine anyR_take (i := 24) (.bool false) rfl (by kernel_rfl) (by kernel_rfl) (by kernel_rfl) (by kernel_rfl) (fun _ _ _ h => h) (by assumption) ⟨by rfl, ?_⟩ ?_
              · intro W hW
                go_simp
              try simp only [Act.put, List.setIfInBounds_toArray, List.set_cons_zero, List.set_cons_succ, List.getElem_toArray, List.getElem_cons_zero, List.getElem_cons_succ]
              refine anyR_done (by kernel_rfl) ?_ _
              refine NoPanic.normal ?_
              have B9 := Lib.hid hS.1
              clear hS SS
              have BJ := Lib.hid (bel_trans BI.out B9.out)
              go_wp2_with fail
              go_roundw
              case rel => exact ⟨i + 1, by omega, by go_num, BJ.out⟩
              case measure => simp [intOf]; omega
            · obtain rfl : Lg = i := by omega
              have d1 := decide_eq_false (show ¬ (Lg : Int) < (Lg : Int) by omega)
              have B9 := Lib.hid (bel_trans B5.out BI.out)
              go_wp2_with fail
              go_ret
              exact ⟨rfl, B9.out⟩
end Go.Proofs.Ytiodbjfchfmlcaa
