/- The law FnPreferred, walked. -/
import Derived.Test.YteejfjgofpolkaaStMath
import Derived.Test.YteejfjgofpolkaaDrawSet
namespace Go.Proofs.Yteejfjgofpolkaa
set_option linter.unusedVariables false
set_option linter.unusedSimpArgs false
set_option maxRecDepth 100000
open Go.RowKit Go.Deep
theorem hit_any {n : Nat} {es : List (Nat × Nat)} (ok : FrOk n es) (m x : Nat) : ((bitsTo (attM es x) 10).any fun b => (bitsTo m 10).any (· == b)) = (hitM es m).testBit x := by
  rw [Bool.eq_iff_iff, List.any_eq_true, hitM_bit]
  constructor
  · rintro ⟨b, hb, h2⟩
    obtain ⟨a, rfl, ha, hb⟩ := bitsTo_mem.1 hb
    rw [bitsTo_has ha] at h2
    exact ⟨a, (attM_bit es x a).1 hb, h2⟩
  · rintro ⟨a, h1, h2⟩
    have := (ok.inn _ h1).1
    have := ok.n10
    exact ⟨a, bitsTo_mem.2 ⟨a, rfl, by omega, (attM_bit es x a).2 h1⟩, by rw [bitsTo_has (by omega)]; exact h2⟩
theorem stab_range {n : Nat} {es : List (Nat × Nat)} (ok : FrOk n es) {m : Nat} (hm : m < 2 ^ n) (hf : freeB es m = true) : ((List.range n).all fun y => (hitM es m).testBit y || m.testBit y) = stabB n es m := by
  rw [Bool.eq_iff_iff, stab_iff hm ok hf, List.all_eq_true]
  constructor
  · intro h x hx
    have := h x (List.mem_range.2 hx)
    rwa [Bool.or_eq_true] at this
  · intro h x hx
    rw [Bool.or_eq_true]
    exact h x (List.mem_range.1 hx)
theorem found_any {n : Nat} {es : List (Nat × Nat)} (ok : FrOk n es) {m : Nat} (hm : m < 2 ^ n) (hg : goodB n es m = true) : ((srtL (bitsL (prefM n es))).any fun z => (bitsTo m 10).all fun b => z.any (· == b)) = true := by
  obtain ⟨o, ho, hs⟩ := good_pref ok hm hg
  have h1 := (allM_mem.1 ho).1
  refine List.any_eq_true.2 ⟨bitsTo o 10, (srtL_perm _).mem_iff.2 (List.mem_map.2 ⟨o, ho, rfl⟩), ?_⟩
  rw [bits_sub (pow10 ok.n10 hm) (pow10 ok.n10 h1), decide_eq_true_eq, ldf_sbs ok hm h1]
  exact hs
set_option maxHeartbeats 16000000 in
theorem fnPreferred_walk (w : World) (A : Option Addr) (n c : Nat) (zs : List Int) (h : Ints .u8 w A n c zs) (B : Option Addr) (m d : Nat) (ys : List Int) (k : Ints .u8 w B m d ys) :
    Calls Try.prog 11 #[.slice A n c, .slice B m d] w fun e w' => e = .returned (.bool true) ∧ Below w.heap.size w w' := by
  have hn := h.short
  have hm := k.short
  by_cases h1 : (decide ((48 : Int) < n) || decide ((48 : Int) < m)) = true
  · have H1 := Lib.hid h1
    clear h1
    go_enter Try.func11, Try.ntmps11
    go_wp2_with fail
    refine (r8Long_any A n c B m d _ hn hm).mono ?_
    rintro e w1 ⟨rfl, rfl⟩
    rw [H1.out]
    go_wp2_with fail
    go_ret
    exact ⟨rfl, Below.refl _ _⟩
  · have H1 : Hid ((decide ((48 : Int) < n) || decide ((48 : Int) < m)) = false) := by show _ = _; simpa using h1
    have KB := Lib.hid k
    clear h1
    go_enter Try.func11, Try.ntmps11
    go_wp2_with fail
    refine (r8Long_any A n c B m d _ hn hm).mono ?_
    rintro e w1 ⟨rfl, rfl⟩
    rw [H1.out]
    go_wp2_with fail
    refine (R8Frame_any A n c zs _ h).mono ?_
    rintro e w1 ⟨N, es, Q, dq, rfl, ok, hR, b1⟩
    have n10 := ok.n10
    have OK := Lib.hid ok
    have ba := bel_alloc w1 (.cells #[.int .i64 N, .slice Q es.length dq] 26)
    have C1 := Lib.hid (Cs.new w1 [.int .i64 N, .slice Q es.length dq] 26)
    have y0 := C1.out.cell 0 rfl
    have y1 := C1.out.cell 1 rfl
    have RR := Lib.hid (hR.below ba)
    have B1 := Lib.hid (bel_trans b1 ba)
    obtain ⟨gF, hgF⟩ : ∃ r, w1.heap.size = r := ⟨_, rfl⟩
    rw [hgF] at C1 y0 y1
    clear ok hR b1 ba
    go_wp2_with fail
    refine (compSI_ok N es OK.out (frB_of OK.out) Q es.length dq _ RR.out).mono ?_
    rintro e w2 ⟨AC, cC, vC, rfl, oC, b2⟩
    have C2 := Lib.hid (C1.out.below b2)
    have z0 := C2.out.cell 0 rfl
    have z1 := C2.out.cell 1 rfl
    have R2 := Lib.hid (RR.out.below b2)
    have B2 := Lib.hid (bel_trans B1.out b2)
    have SC2 := Lib.hid oC
    clear oC b2 y0 y1
    go_wp2_with fail
    refine (prefSI_ok N es OK.out (frB_of OK.out) Q es.length dq _ R2.out).mono ?_
    rintro e w3 ⟨AP, cP, vP, rfl, oP, b3⟩
    have C3 := Lib.hid (C2.out.below b3)
    have x0 := C3.out.cell 0 rfl
    have x1 := C3.out.cell 1 rfl
    have R3 := Lib.hid (R2.out.below b3)
    have B3 := Lib.hid (bel_trans B2.out b3)
    have SC3 := Lib.hid (SC2.out.below b3)
    have SP3 := Lib.hid oP
    clear oP b3 z0 z1 SC2
    go_wp2_with fail
    refine (stabSI_ok N es OK.out (frB_of OK.out) Q es.length dq _ R3.out).mono ?_
    rintro e w4 ⟨AT, cT, vT, rfl, oT, b4⟩
    have C4 := Lib.hid (C3.out.below b4)
    have R4 := Lib.hid (R3.out.below b4)
    have B4 := Lib.hid (bel_trans B3.out b4)
    have SC4 := Lib.hid (SC3.out.below b4)
    have SP4 := Lib.hid (SP3.out.below b4)
    have ST4 := Lib.hid oT
    clear oT b4 x0 x1 SC3 SP3 R2 R3 RR C1 C2 C3
    have PAT := Lib.hid (fun i z (hz : (srtL (bitsL (prefM N es)))[i]? = some z) => (show ∃ m, m < 2 ^ N ∧ m ∈ prefM N es ∧ z = bitsTo m 10 from by
      obtain ⟨m, h1, h2⟩ := set_at hz
      exact ⟨m, (allM_mem.1 h1).1, h1, h2⟩))
    have TAT := Lib.hid (fun i z (hz : (srtL (bitsL (allM N (stabB N es))))[i]? = some z) => (show ∃ m, m < 2 ^ N ∧ stabB N es m = true ∧ z = bitsTo m 10 from by
      obtain ⟨m, h1, h2⟩ := set_at hz
      exact ⟨m, (allM_mem.1 h1).1, (allM_mem.1 h1).2, h2⟩))
    have CAN := Lib.hid (fun m (hm : m ∈ prefM N es) => (show ((srtL (bitsL (allM N (compB N es)))).any fun z => decide (z = bitsTo m 10)) = true from by
      rw [set_any (fun m h => allM_lt n10 h) (allM_lt n10 hm)]
      exact decide_eq_true (allM_mem.2 ⟨(allM_mem.1 hm).1, pref_comp OK.out hm⟩)))
    have PAN := Lib.hid (fun m (hl : m < 2 ^ N) (hm : stabB N es m = true) => (show ((srtL (bitsL (prefM N es))).any fun z => decide (z = bitsTo m 10)) = true from by
      rw [show prefM N es = allM N (prefB N es) from rfl, set_any (fun m h => allM_lt n10 h) (pow10 n10 hl)]
      exact decide_eq_true (stab_pref OK.out hl hm)))
    have TAN := Lib.hid (fun m (hl : m < 2 ^ N) => (show ((srtL (bitsL (allM N (stabB N es)))).any fun z => decide (z = bitsTo m 10)) = stabB N es m from by
      rw [set_any (fun m h => allM_lt n10 h) (pow10 n10 hl), Bool.eq_iff_iff, decide_eq_true_eq, allM_mem]
      exact ⟨fun h => h.2, fun h => ⟨hl, h⟩⟩))
    have PNE := Lib.hid (fun i j m o (hi : (srtL (bitsL (prefM N es)))[i]? = some (bitsTo m 10)) (hj : (srtL (bitsL (prefM N es)))[j]? = some (bitsTo o 10)) (h1 : m ∈ prefM N es) (h2 : o ∈ prefM N es) (hne : i ≠ j) => (show decide (ldf m o = 0) = false from by
      refine decide_eq_false fun e => ?_
      have hs := (ldf_sbs OK.out (allM_mem.1 h1).1 (allM_mem.1 h2).1).1 e
      exact set_ne n10 (prefB N es) hi hj hne (by rw [pref_anti h1 h2 hs])))
    have FND := Lib.hid (fun m (hl : m < 2 ^ N) (hg : goodB N es m = true) => found_any OK.out hl hg)
    have LC : (srtL (bitsL (allM N (compB N es)))).length ≤ 1024 := by rw [srtL_len, bitsL_len]; exact allM_len n10 _
    have LP : (srtL (bitsL (prefM N es))).length ≤ 1024 := by rw [srtL_len, bitsL_len]; exact allM_len n10 _
    have LT : (srtL (bitsL (allM N (stabB N es)))).length ≤ 1024 := by rw [srtL_len, bitsL_len]; exact allM_len n10 _
    have PP : 0 < (srtL (bitsL (prefM N es))).length := by rw [srtL_len, bitsL_len]; exact List.length_pos_iff.2 (prefM_some OK.out)
    obtain ⟨SC, hSC⟩ : ∃ s, srtL (bitsL (allM N (compB N es))) = s := ⟨_, rfl⟩
    obtain ⟨SP, hSP⟩ : ∃ s, srtL (bitsL (prefM N es)) = s := ⟨_, rfl⟩
    obtain ⟨ST, hST⟩ : ∃ s, srtL (bitsL (allM N (stabB N es))) = s := ⟨_, rfl⟩
    rw [hSC] at SC4 CAN LC ⊢
    rw [hSP] at SP4 PAT PAN PNE LP PP FND ⊢
    rw [hST] at ST4 TAT TAN LT ⊢
    obtain ⟨gP, rfl, hgP, _⟩ := SP4.out.form PP
    have s0 : (((SP.length : Nat) : Int) == 0) = false := by show decide _ = false; exact decide_eq_false (by omega)
    clear hSC hSP hST
    go_wp2_with fail
    go_loopw [12] (fun t wr => ∃ i : Nat, i ≤ SP.length ∧ t = .int .i64 i ∧ Below w4.heap.size w4 wr) (fun t _ => SP.length - (intOf t).toNat)
    case atStart => exact ⟨0, Nat.zero_le _, rfl, Below.refl _ _⟩
    case round =>
      obtain ⟨i, hi, rfl, hb⟩ := hrel
      obtain ⟨wO, hwO⟩ : ∃ x, x = wr := ⟨_, rfl⟩
      subst hwO
      have HB := Lib.hid hb
      have KC := Lib.hid (C4.out.below hb)
      have KR := Lib.hid (R4.out.below hb)
      have KS := Lib.hid (SP4.out.below hb)
      clear hb
      by_cases hlt : i < SP.length
      · have d0 := decide_eq_true (show (i : Int) < (SP.length : Int) by omega)
        have i0 : (0 : Int) ≤ (i : Int) := by omega
        have i1 : (i : Int) < (SP.length : Int) := by omega
        obtain ⟨g', Ai, ci, z, e1, _, gl5, hz, cz, oz, _⟩ := KS.out.at hlt
        simp only [Option.some.injEq, Addr.mk.injEq, and_true] at e1
        subst e1
        obtain ⟨m, hm, hc, rfl⟩ := PAT.out i z hz.out
        have KZ := Lib.hid oz.ints
        have KCZ := Lib.hid cz
        have HC := Lib.hid hc
        have HZI := Lib.hid hz.out
        have m10 := pow10 n10 hm
        have AM := Lib.hid (r8Among_any AC SC.length cC SC Ai _ ci _ wO (SC4.out.below HB.out).rws oz.ints)
        rw [CAN.out m hc] at AM
        clear oz hz hc
        go_wp2_with fail
        refine AM.out.mono ?_
        rintro e w5 ⟨rfl, b5⟩
        have B5 := Lib.hid b5
        clear b5 AM cz
        go_wp2_with fail
        go_loopw [13] (fun t wr => ∃ j : Nat, j ≤ SP.length ∧ t = .int .i64 j ∧ Below wO.heap.size wO wr) (fun t _ => SP.length - (intOf t).toNat)
        case atStart => exact ⟨0, Nat.zero_le _, rfl, B5.out⟩
        case round =>
          obtain ⟨j, hj, rfl, hb⟩ := hrel
          have B6 := Lib.hid hb
          clear hb
          by_cases hjl : j < SP.length
          · have dj := decide_eq_true (show (j : Int) < (SP.length : Int) by omega)
            have j0 : (0 : Int) ≤ (j : Int) := by omega
            have j1 : (j : Int) < (SP.length : Int) := by omega
            obtain ⟨g', Aj, cj, zj, e1, _, _, hzj, czj, ozj, _⟩ := KS.out.at hjl
            simp only [Option.some.injEq, Addr.mk.injEq, and_true] at e1
            subst e1
            obtain ⟨o, ho, hco, rfl⟩ := PAT.out j zj hzj.out
            have KZJ := Lib.hid ozj.ints
            have KCJ := Lib.hid czj
            have SS := Lib.hid (fun (W : World) (hW : Below wr.heap.size wr W) => (show Below wr.heap.size wr W ∧ W.cell? ⟨gP, i, none⟩ = some (.slice Ai (bitsTo m 10).length ci) ∧ W.cell? ⟨gP, j, none⟩ = some (.slice Aj (bitsTo o 10).length cj) from
              have hV := bel_trans B6.out hW
              ⟨hW, (hV.cell (p := ⟨gP, i, none⟩) gl5).trans KCZ.out, (hV.cell (p := ⟨gP, j, none⟩) gl5).trans KCJ.out⟩))
            by_cases hij : i = j
            · have q1 : ((i : Int) != (j : Int)) = false := by simp [hij]
              clear hij ozj czj hzj
              go_wp2_with fail
              refine wp_region_noPanic ?_
              refine wp_region_R (inFirst (fun W => Below wr.heap.size wr W ∧ W.cell? ⟨gP, i, none⟩ = some (.slice Ai (bitsTo m 10).length ci) ∧ W.cell? ⟨gP, j, none⟩ = some (.slice Aj (bitsTo o 10).length cj)) 14) (by kernel_rfl) ?_
              have hS := SS.out wr.drew ⟨rfl, rfl, rfl, Nat.le_refl _, fun _ _ => rfl⟩
              refine anyR_take (i := 0) (.int .i64 i) rfl (by kernel_rfl) (by kernel_rfl) (by kernel_rfl) (by kernel_rfl) (fun _ _ _ h => h) (by assumption) ⟨by rfl, ?_⟩ ?_
              · intro W hW
                go_simp
              try simp only [Act.put, List.setIfInBounds_toArray, List.set_cons_zero, List.set_cons_succ, List.getElem_toArray, List.getElem_cons_zero, List.getElem_cons_succ]
              refine anyR_take (i := 1) (.int .i64 j) rfl (by kernel_rfl) (by kernel_rfl) (by kernel_rfl) (by kernel_rfl) (fun _ _ _ h => h) (by assumption) ⟨by rfl, ?_⟩ ?_
              · intro W hW
                go_simp
              try simp only [Act.put, List.setIfInBounds_toArray, List.set_cons_zero, List.set_cons_succ, List.getElem_toArray, List.getElem_cons_zero, List.getElem_cons_succ]
              refine anyR_take (i := 2) (.bool false) rfl (by kernel_rfl) (by kernel_rfl) (by kernel_rfl) (by kernel_rfl) (fun _ _ _ h => h) (by assumption) ⟨by rfl, ?_⟩ ?_
              · intro W hW
                go_simp
              try simp only [Act.put, List.setIfInBounds_toArray, List.set_cons_zero, List.set_cons_succ, List.getElem_toArray, List.getElem_cons_zero, List.getElem_cons_succ]
              refine anyR_take (i := 3) (.bool false) rfl (by kernel_rfl) (by kernel_rfl) (by kernel_rfl) (by kernel_rfl) (fun _ _ _ h => h) (by assumption) ⟨by rfl, ?_⟩ ?_
              · intro W hW
                go_simp
              try simp only [Act.put, List.setIfInBounds_toArray, List.set_cons_zero, List.set_cons_succ, List.getElem_toArray, List.getElem_cons_zero, List.getElem_cons_succ]
              refine anyR_skip (i := 4) rfl (by kernel_rfl) (by kernel_rfl) (by kernel_rfl) (by kernel_rfl) (fun _ _ _ h => h) (by assumption) (by rfl) ?_
              try simp only [Act.put, List.setIfInBounds_toArray, List.set_cons_zero, List.set_cons_succ, List.getElem_toArray, List.getElem_cons_zero, List.getElem_cons_succ]
              refine anyR_skip (i := 5) rfl (by kernel_rfl) (by kernel_rfl) (by kernel_rfl) (by kernel_rfl) (fun _ _ _ h => h) (by assumption) (by rfl) ?_
              try simp only [Act.put, List.setIfInBounds_toArray, List.set_cons_zero, List.set_cons_succ, List.getElem_toArray, List.getElem_cons_zero, List.getElem_cons_succ]
              refine anyR_skip (i := 6) rfl (by kernel_rfl) (by kernel_rfl) (by kernel_rfl) (by kernel_rfl) (fun _ _ _ h => h) (by assumption) (by rfl) ?_
              try simp only [Act.put, List.setIfInBounds_toArray, List.set_cons_zero, List.set_cons_succ, List.getElem_toArray, List.getElem_cons_zero, List.getElem_cons_succ]
              refine anyR_skip (i := 7) rfl (by kernel_rfl) (by kernel_rfl) (by kernel_rfl) (by kernel_rfl) (fun _ _ _ h => h) (by assumption) (by rfl) ?_
              try simp only [Act.put, List.setIfInBounds_toArray, List.set_cons_zero, List.set_cons_succ, List.getElem_toArray, List.getElem_cons_zero, List.getElem_cons_succ]
              refine anyR_skip (i := 8) rfl (by kernel_rfl) (by kernel_rfl) (by kernel_rfl) (by kernel_rfl) (fun _ _ _ h => h) (by assumption) (by rfl) ?_
              try simp only [Act.put, List.setIfInBounds_toArray, List.set_cons_zero, List.set_cons_succ, List.getElem_toArray, List.getElem_cons_zero, List.getElem_cons_succ]
              refine anyR_skip (i := 9) rfl (by kernel_rfl) (by kernel_rfl) (by kernel_rfl) (by kernel_rfl) (fun _ _ _ h => h) (by assumption) (by rfl) ?_
              try simp only [Act.put, List.setIfInBounds_toArray, List.set_cons_zero, List.set_cons_succ, List.getElem_toArray, List.getElem_cons_zero, List.getElem_cons_succ]
              refine anyR_skip (i := 10) rfl (by kernel_rfl) (by kernel_rfl) (by kernel_rfl) (by kernel_rfl) (fun _ _ _ h => h) (by assumption) (by rfl) ?_
              try simp only [Act.put, List.setIfInBounds_toArray, List.set_cons_zero, List.set_cons_succ, List.getElem_toArray, List.getElem_cons_zero, List.getElem_cons_succ]
              refine anyR_skip (i := 11) rfl (by kernel_rfl) (by kernel_rfl) (by kernel_rfl) (by kernel_rfl) (fun _ _ _ h => h) (by assumption) (by rfl) ?_
              try simp only [Act.put, List.setIfInBounds_toArray, List.set_cons_zero, List.set_cons_succ, List.getElem_toArray, List.getElem_cons_zero, List.getElem_cons_succ]
              refine anyR_skip (i := 12) rfl (by kernel_rfl) (by kernel_rfl) (by kernel_rfl) (by kernel_rfl) (fun _ _ _ h => h) (by assumption) (by rfl) ?_
              try simp only [Act.put, List.setIfInBounds_toArray, List.set_cons_zero, List.set_cons_succ, List.getElem_toArray, List.getElem_cons_zero, List.getElem_cons_succ]
              refine anyR_take (i := 13) (.bool false) rfl (by kernel_rfl) (by kernel_rfl) (by kernel_rfl) (by kernel_rfl) (fun _ _ _ h => h) (by assumption) ⟨by rfl, ?_⟩ ?_
              · intro W hW
                go_simp
              try simp only [Act.put, List.setIfInBounds_toArray, List.set_cons_zero, List.set_cons_succ, List.getElem_toArray, List.getElem_cons_zero, List.getElem_cons_succ]
              refine anyR_done (by kernel_rfl) ?_ _
              refine NoPanic.normal ?_
              have BE := Lib.hid (bel_trans B6.out hS.1)
              clear hS SS
              go_wp2_with fail
              go_roundw
              case rel => exact ⟨j + 1, by omega, by go_num, BE.out⟩
              case measure => simp [intOf]; omega
            · have q1 : ((i : Int) != (j : Int)) = true := by simp; omega
              have IN := Lib.hid (fun W (hW : Below wr.heap.size wr W) => (show Calls Try.prog 53 #[.slice Ai (bitsTo m 10).length ci, .slice Aj (bitsTo o 10).length cj] W fun e w' => e = .returned (.bool false) ∧ Below W.heap.size W w' from
                (r8Inside_any Ai _ ci _ Aj _ cj _ W (KZ.out.below (bel_trans B6.out hW)) (KZJ.out.below (bel_trans B6.out hW))).mono fun e w' hh => ⟨by rw [hh.1, bits_sub m10 (pow10 n10 ho), PNE.out i j m o HZI.out hzj.out HC.out hco hij], hh.2 ▸ Below.refl _ _⟩))
              clear hij ozj czj hzj
              go_wp2_with fail
              refine wp_region_noPanic ?_
              refine wp_region_R (inFirst (fun W => Below wr.heap.size wr W ∧ W.cell? ⟨gP, i, none⟩ = some (.slice Ai (bitsTo m 10).length ci) ∧ W.cell? ⟨gP, j, none⟩ = some (.slice Aj (bitsTo o 10).length cj)) 14) (by kernel_rfl) ?_
              have hS := SS.out wr.drew ⟨rfl, rfl, rfl, Nat.le_refl _, fun _ _ => rfl⟩
              refine anyR_take (i := 0) (.int .i64 i) rfl (by kernel_rfl) (by kernel_rfl) (by kernel_rfl) (by kernel_rfl) (fun _ _ _ h => h) (by assumption) ⟨by rfl, ?_⟩ ?_
              · intro W hW
                go_simp
              try simp only [Act.put, List.setIfInBounds_toArray, List.set_cons_zero, List.set_cons_succ, List.getElem_toArray, List.getElem_cons_zero, List.getElem_cons_succ]
              refine anyR_take (i := 1) (.int .i64 j) rfl (by kernel_rfl) (by kernel_rfl) (by kernel_rfl) (by kernel_rfl) (fun _ _ _ h => h) (by assumption) ⟨by rfl, ?_⟩ ?_
              · intro W hW
                go_simp
              try simp only [Act.put, List.setIfInBounds_toArray, List.set_cons_zero, List.set_cons_succ, List.getElem_toArray, List.getElem_cons_zero, List.getElem_cons_succ]
              refine anyR_take (i := 2) (.bool true) rfl (by kernel_rfl) (by kernel_rfl) (by kernel_rfl) (by kernel_rfl) (fun _ _ _ h => h) (by assumption) ⟨by rfl, ?_⟩ ?_
              · intro W hW
                go_simp
              try simp only [Act.put, List.setIfInBounds_toArray, List.set_cons_zero, List.set_cons_succ, List.getElem_toArray, List.getElem_cons_zero, List.getElem_cons_succ]
              refine anyR_take (i := 3) (.bool true) rfl (by kernel_rfl) (by kernel_rfl) (by kernel_rfl) (by kernel_rfl) (fun _ _ _ h => h) (by assumption) ⟨by rfl, ?_⟩ ?_
              · intro W hW
                go_simp
              try simp only [Act.put, List.setIfInBounds_toArray, List.set_cons_zero, List.set_cons_succ, List.getElem_toArray, List.getElem_cons_zero, List.getElem_cons_succ]
              refine anyR_take (i := 4) (.slice (some ⟨gP, 0, none⟩) SP.length cP) rfl (by kernel_rfl) (by kernel_rfl) (by kernel_rfl) (by kernel_rfl) (fun _ _ _ h => h) (by assumption) ⟨by rfl, ?_⟩ ?_
              · intro W hW
                go_simp
              try simp only [Act.put, List.setIfInBounds_toArray, List.set_cons_zero, List.set_cons_succ, List.getElem_toArray, List.getElem_cons_zero, List.getElem_cons_succ]
              refine anyR_take (i := 5) (.int .i64 i) rfl (by kernel_rfl) (by kernel_rfl) (by kernel_rfl) (by kernel_rfl) (fun _ _ _ h => h) (by assumption) ⟨by rfl, ?_⟩ ?_
              · intro W hW
                go_simp
              try simp only [Act.put, List.setIfInBounds_toArray, List.set_cons_zero, List.set_cons_succ, List.getElem_toArray, List.getElem_cons_zero, List.getElem_cons_succ]
              refine anyR_take (i := 6) (.pointer (some ⟨gP, i, none⟩)) rfl (by kernel_rfl) (by kernel_rfl) (by kernel_rfl) (by kernel_rfl) (fun _ _ _ h => h) (by assumption) ⟨by rfl, ?_⟩ ?_
              · intro W hW
                go_simp
              try simp only [Act.put, List.setIfInBounds_toArray, List.set_cons_zero, List.set_cons_succ, List.getElem_toArray, List.getElem_cons_zero, List.getElem_cons_succ]
              refine anyR_take (i := 7) (.slice Ai (bitsTo m 10).length ci) rfl (by kernel_rfl) (by kernel_rfl) (by kernel_rfl) (by kernel_rfl) (fun _ _ _ h => h) (by assumption) ⟨by rfl, ?_⟩ ?_
              · intro W hW
                go_simp
              try simp only [Act.put, List.setIfInBounds_toArray, List.set_cons_zero, List.set_cons_succ, List.getElem_toArray, List.getElem_cons_zero, List.getElem_cons_succ]
              refine anyR_take (i := 8) (.slice (some ⟨gP, 0, none⟩) SP.length cP) rfl (by kernel_rfl) (by kernel_rfl) (by kernel_rfl) (by kernel_rfl) (fun _ _ _ h => h) (by assumption) ⟨by rfl, ?_⟩ ?_
              · intro W hW
                go_simp
              try simp only [Act.put, List.setIfInBounds_toArray, List.set_cons_zero, List.set_cons_succ, List.getElem_toArray, List.getElem_cons_zero, List.getElem_cons_succ]
              refine anyR_take (i := 9) (.int .i64 j) rfl (by kernel_rfl) (by kernel_rfl) (by kernel_rfl) (by kernel_rfl) (fun _ _ _ h => h) (by assumption) ⟨by rfl, ?_⟩ ?_
              · intro W hW
                go_simp
              try simp only [Act.put, List.setIfInBounds_toArray, List.set_cons_zero, List.set_cons_succ, List.getElem_toArray, List.getElem_cons_zero, List.getElem_cons_succ]
              refine anyR_take (i := 10) (.pointer (some ⟨gP, j, none⟩)) rfl (by kernel_rfl) (by kernel_rfl) (by kernel_rfl) (by kernel_rfl) (fun _ _ _ h => h) (by assumption) ⟨by rfl, ?_⟩ ?_
              · intro W hW
                go_simp
              try simp only [Act.put, List.setIfInBounds_toArray, List.set_cons_zero, List.set_cons_succ, List.getElem_toArray, List.getElem_cons_zero, List.getElem_cons_succ]
              refine anyR_take (i := 11) (.slice Aj (bitsTo o 10).length cj) rfl (by kernel_rfl) (by kernel_rfl) (by kernel_rfl) (by kernel_rfl) (fun _ _ _ h => h) (by assumption) ⟨by rfl, ?_⟩ ?_
              · intro W hW
                go_simp
              try simp only [Act.put, List.setIfInBounds_toArray, List.set_cons_zero, List.set_cons_succ, List.getElem_toArray, List.getElem_cons_zero, List.getElem_cons_succ]
              refine anyR_one (i := 12) (by kernel_rfl) rfl ?_
              intro K hK
              go_simp
              go_at_call 53
              refine (IN.out _ hS.1).mono ?_
              rintro e w9 ⟨rfl, b9⟩
              have hT := SS.out w9 (bel_trans hS.1 b9)
              refine hK.out _ _ (fun _ => hT) ?_
              clear hS b9
              have hS := hT
              clear hT
              clear hK K
              try simp only [Act.put, List.setIfInBounds_toArray, List.set_cons_zero, List.set_cons_succ, List.getElem_toArray, List.getElem_cons_zero, List.getElem_cons_succ]
              refine anyR_take (i := 13) (.bool false) rfl (by kernel_rfl) (by kernel_rfl) (by kernel_rfl) (by kernel_rfl) (fun _ _ _ h => h) (by assumption) ⟨by rfl, ?_⟩ ?_
              · intro W hW
                go_simp
              try simp only [Act.put, List.setIfInBounds_toArray, List.set_cons_zero, List.set_cons_succ, List.getElem_toArray, List.getElem_cons_zero, List.getElem_cons_succ]
              refine anyR_done (by kernel_rfl) ?_ _
              refine NoPanic.normal ?_
              have BE := Lib.hid (bel_trans B6.out hS.1)
              clear hS SS
              go_wp2_with fail
              go_roundw
              case rel => exact ⟨j + 1, by omega, by go_num, BE.out⟩
              case measure => simp [intOf]; omega
          · have dj := decide_eq_false (show ¬ (j : Int) < (SP.length : Int) by omega)
            have KC6 := Lib.hid (KC.out.below B6.out)
            have f0 := KC6.out.cell 0 rfl
            obtain ⟨wK, hwK⟩ : ∃ x, x = wr := ⟨_, rfl⟩
            subst hwK
            go_wp2_with fail
            clear f0
            go_loopw [14, 15] (fun al t wr => ∃ x : Nat, x ≤ N ∧ t = .int .i64 x ∧ al = .bool ((List.range x).all fun y => (hitM es m).testBit y || m.testBit y) ∧ Below wO.heap.size wO wr) (fun _ t _ => N - (intOf t).toNat)
            case atStart => exact ⟨0, Nat.zero_le _, rfl, rfl, B6.out⟩
            case round =>
              obtain ⟨x, hx, rfl, rfl, hb⟩ := hrel
              have B7 := Lib.hid hb
              have KC7 := Lib.hid (KC.out.below hb)
              have f0 := KC7.out.cell 0 rfl
              have f1 := KC7.out.cell 1 rfl
              have cz7 := (hb.cell (p := ⟨gP, i, none⟩) gl5).trans KCZ.out
              clear hb
              by_cases hxn : x < N
              · have dx := decide_eq_true (show (x : Int) < (N : Int) by omega)
                have AO := Lib.hid (attackersOf_ok N es OK.out x hxn Q es.length dq wr (KR.out.below B7.out))
                have RG := Lib.hid (show ((List.range (x + 1)).all fun y => (hitM es m).testBit y || m.testBit y) = (((List.range x).all fun y => (hitM es m).testBit y || m.testBit y) && ((hitM es m).testBit x || m.testBit x)) by rw [List.range_succ, List.all_append]; simp)
                obtain ⟨v, hv⟩ : ∃ v, ((List.range x).all fun y => (hitM es m).testBit y || m.testBit y) = v := ⟨_, rfl⟩
                rw [hv] at RG ⊢
                clear hv
                go_wp2_with fail
                refine AO.out.mono ?_
                rintro e w8 ⟨AB, cB, rfl, oB, b8⟩
                have hL10 := bitsTo_len (attM es x) 10
                have HA := Lib.hid (hit_any OK.out m x)
                obtain ⟨hx1, hhx⟩ : ∃ v, (hitM es m).testBit x = v := ⟨_, rfl⟩
                rw [hhx] at RG HA
                have LB := Lib.hid (fun z (hz : z ∈ bitsTo (attM es x) 10) => (show -9223372036854775808 ≤ z ∧ z ≤ 9223372036854775807 from by
                  obtain ⟨a, rfl, ha, _⟩ := bitsTo_mem.1 hz
                  omega))
                obtain ⟨L, hLL⟩ : ∃ l, bitsTo (attM es x) 10 = l := ⟨_, rfl⟩
                rw [hLL] at oB hL10 HA LB ⊢
                have B8 := Lib.hid (bel_trans B7.out b8)
                have OB := Lib.hid oB
                clear oB b8 AO f0 f1 hLL hhx cz7 KC7
                obtain ⟨wX, hwX⟩ : ∃ x, x = w8 := ⟨_, rfl⟩
                subst hwX
                go_wp2_with fail
                go_loopw [18, 19] (fun ht t wr => ∃ j : Nat, j ≤ L.length ∧ t = .int .i64 j ∧ ht = .bool ((L.take j).any fun b => (bitsTo m 10).any (· == b)) ∧ Below wX.heap.size wX wr) (fun _ t _ => L.length - (intOf t).toNat)
                case atStart => exact ⟨0, Nat.zero_le _, rfl, rfl, Below.refl _ _⟩
                case round =>
                  obtain ⟨j, hj, rfl, rfl, hb⟩ := hrel
                  have B9 := Lib.hid (bel_trans B8.out hb)
                  have OB9 := Lib.hid (OB.out.below hb)
                  have BX := Lib.hid hb
                  clear hb
                  by_cases hjl2 : j < L.length
                  · have dj2 := decide_eq_true (show (j : Int) < (L.length : Int) by omega)
                    have j0 : (0 : Int) ≤ (j : Int) := by omega
                    have j1 : (j : Int) < (L.length : Int) := by omega
                    obtain ⟨gB, rfl, _, gBl⟩ := OB9.out.form (by omega)
                    obtain ⟨b, hbj⟩ : ∃ b, L[j]? = some b := ⟨_, List.getElem?_eq_getElem hjl2⟩
                    have cb := OB9.out.cell hbj
                    have SS := Lib.hid (fun (W : World) (hW : Below wr.heap.size wr W) => (show Below wr.heap.size wr W ∧ W.cell? ⟨gP, i, none⟩ = some (.slice Ai (bitsTo m 10).length ci) ∧ W.cell? ⟨gB, j, none⟩ = some (.int .i64 b) from
                      have hV := bel_trans B9.out hW
                      ⟨hW, (hV.cell (p := ⟨gP, i, none⟩) gl5).trans KCZ.out, (hW.cell (p := ⟨gB, j, none⟩) gBl).trans cb⟩))
                    have TK := Lib.hid (show ((L.take (j + 1)).any fun b => (bitsTo m 10).any (· == b)) = (((L.take j).any fun b => (bitsTo m 10).any (· == b)) || (bitsTo m 10).any (· == b)) by rw [take_snoc' hbj, List.any_append]; simp)
                    obtain ⟨u, hu⟩ : ∃ u, (bitsTo m 10).any (· == b) = u := ⟨_, rfl⟩
                    obtain ⟨v2, hv2⟩ : ∃ v, ((L.take j).any fun b => (bitsTo m 10).any (· == b)) = v := ⟨_, rfl⟩
                    rw [hu, hv2] at TK
                    rw [hv2]
                    have HS := Lib.hid (fun W (hW : Below wr.heap.size wr W) => (show Calls Try.prog 40 #[.slice Ai (bitsTo m 10).length ci, .int .i64 b] W fun e w' => e = .returned (.bool u) ∧ Below W.heap.size W w' from
                      (r8Has_any Ai _ ci _ b W (KZ.out.below (bel_trans B9.out hW))).mono fun e w' hh => ⟨by rw [hh.1, hu], hh.2 ▸ Below.refl _ _⟩))
                    clear hu hv2 cb hbj
                    cases v2
                    · go_wp2_with fail
                      refine wp_region_noPanic ?_
                      refine wp_region_R (inFirst (fun W => Below wr.heap.size wr W ∧ W.cell? ⟨gP, i, none⟩ = some (.slice Ai (bitsTo m 10).length ci) ∧ W.cell? ⟨gB, j, none⟩ = some (.int .i64 b)) 13) (by kernel_rfl) ?_
                      have hS := SS.out wr.drew ⟨rfl, rfl, rfl, Nat.le_refl _, fun _ _ => rfl⟩
                      refine anyR_take (i := 0) (.bool false) rfl (by kernel_rfl) (by kernel_rfl) (by kernel_rfl) (by kernel_rfl) (fun _ _ _ h => h) (by assumption) ⟨by rfl, ?_⟩ ?_
                      · intro W hW
                        go_simp
                      try simp only [Act.put, List.setIfInBounds_toArray, List.set_cons_zero, List.set_cons_succ, List.getElem_toArray, List.getElem_cons_zero, List.getElem_cons_succ]
                      refine anyR_take (i := 1) (.bool false) rfl (by kernel_rfl) (by kernel_rfl) (by kernel_rfl) (by kernel_rfl) (fun _ _ _ h => h) (by assumption) ⟨by rfl, ?_⟩ ?_
                      · intro W hW
                        go_simp
                      try simp only [Act.put, List.setIfInBounds_toArray, List.set_cons_zero, List.set_cons_succ, List.getElem_toArray, List.getElem_cons_zero, List.getElem_cons_succ]
                      refine anyR_take (i := 2) (.slice (some ⟨gP, 0, none⟩) SP.length cP) rfl (by kernel_rfl) (by kernel_rfl) (by kernel_rfl) (by kernel_rfl) (fun _ _ _ h => h) (by assumption) ⟨by rfl, ?_⟩ ?_
                      · intro W hW
                        go_simp
                      try simp only [Act.put, List.setIfInBounds_toArray, List.set_cons_zero, List.set_cons_succ, List.getElem_toArray, List.getElem_cons_zero, List.getElem_cons_succ]
                      refine anyR_take (i := 3) (.int .i64 i) rfl (by kernel_rfl) (by kernel_rfl) (by kernel_rfl) (by kernel_rfl) (fun _ _ _ h => h) (by assumption) ⟨by rfl, ?_⟩ ?_
                      · intro W hW
                        go_simp
                      try simp only [Act.put, List.setIfInBounds_toArray, List.set_cons_zero, List.set_cons_succ, List.getElem_toArray, List.getElem_cons_zero, List.getElem_cons_succ]
                      refine anyR_take (i := 4) (.pointer (some ⟨gP, i, none⟩)) rfl (by kernel_rfl) (by kernel_rfl) (by kernel_rfl) (by kernel_rfl) (fun _ _ _ h => h) (by assumption) ⟨by rfl, ?_⟩ ?_
                      · intro W hW
                        go_simp
                      try simp only [Act.put, List.setIfInBounds_toArray, List.set_cons_zero, List.set_cons_succ, List.getElem_toArray, List.getElem_cons_zero, List.getElem_cons_succ]
                      refine anyR_take (i := 5) (.slice Ai (bitsTo m 10).length ci) rfl (by kernel_rfl) (by kernel_rfl) (by kernel_rfl) (by kernel_rfl) (fun _ _ _ h => h) (by assumption) ⟨by rfl, ?_⟩ ?_
                      · intro W hW
                        go_simp
                      try simp only [Act.put, List.setIfInBounds_toArray, List.set_cons_zero, List.set_cons_succ, List.getElem_toArray, List.getElem_cons_zero, List.getElem_cons_succ]
                      refine anyR_take (i := 6) (.slice (some ⟨gB, 0, none⟩) L.length cB) rfl (by kernel_rfl) (by kernel_rfl) (by kernel_rfl) (by kernel_rfl) (fun _ _ _ h => h) (by assumption) ⟨by rfl, ?_⟩ ?_
                      · intro W hW
                        go_simp
                      try simp only [Act.put, List.setIfInBounds_toArray, List.set_cons_zero, List.set_cons_succ, List.getElem_toArray, List.getElem_cons_zero, List.getElem_cons_succ]
                      refine anyR_take (i := 7) (.int .i64 j) rfl (by kernel_rfl) (by kernel_rfl) (by kernel_rfl) (by kernel_rfl) (fun _ _ _ h => h) (by assumption) ⟨by rfl, ?_⟩ ?_
                      · intro W hW
                        go_simp
                      try simp only [Act.put, List.setIfInBounds_toArray, List.set_cons_zero, List.set_cons_succ, List.getElem_toArray, List.getElem_cons_zero, List.getElem_cons_succ]
                      refine anyR_take (i := 8) (.pointer (some ⟨gB, j, none⟩)) rfl (by kernel_rfl) (by kernel_rfl) (by kernel_rfl) (by kernel_rfl) (fun _ _ _ h => h) (by assumption) ⟨by rfl, ?_⟩ ?_
                      · intro W hW
                        go_simp
                      try simp only [Act.put, List.setIfInBounds_toArray, List.set_cons_zero, List.set_cons_succ, List.getElem_toArray, List.getElem_cons_zero, List.getElem_cons_succ]
                      refine anyR_take (i := 9) (.int .i64 b) rfl (by kernel_rfl) (by kernel_rfl) (by kernel_rfl) (by kernel_rfl) (fun _ _ _ h => h) (by assumption) ⟨by rfl, ?_⟩ ?_
                      · intro W hW
                        go_simp
                      try simp only [Act.put, List.setIfInBounds_toArray, List.set_cons_zero, List.set_cons_succ, List.getElem_toArray, List.getElem_cons_zero, List.getElem_cons_succ]
                      refine anyR_one (i := 10) (by kernel_rfl) rfl ?_
                      intro K hK
                      go_simp
                      go_at_call 40
                      refine (HS.out _ hS.1).mono ?_
                      rintro e w9 ⟨rfl, b9⟩
                      have hT := SS.out w9 (bel_trans hS.1 b9)
                      refine hK.out _ _ (fun _ => hT) ?_
                      clear hS b9
                      have hS := hT
                      clear hT
                      clear hK K
                      try simp only [Act.put, List.setIfInBounds_toArray, List.set_cons_zero, List.set_cons_succ, List.getElem_toArray, List.getElem_cons_zero, List.getElem_cons_succ]
                      refine anyR_take (i := 11) (.bool u) rfl (by kernel_rfl) (by kernel_rfl) (by kernel_rfl) (by kernel_rfl) (fun _ _ _ h => h) (by assumption) ⟨by rfl, ?_⟩ ?_
                      · intro W hW
                        go_simp
                      try simp only [Act.put, List.setIfInBounds_toArray, List.set_cons_zero, List.set_cons_succ, List.getElem_toArray, List.getElem_cons_zero, List.getElem_cons_succ]
                      refine anyR_take (i := 12) (.bool u) rfl (by kernel_rfl) (by kernel_rfl) (by kernel_rfl) (by kernel_rfl) (fun _ _ _ h => h) (by assumption) ⟨by rfl, ?_⟩ ?_
                      · intro W hW
                        go_simp
                      try simp only [Act.put, List.setIfInBounds_toArray, List.set_cons_zero, List.set_cons_succ, List.getElem_toArray, List.getElem_cons_zero, List.getElem_cons_succ]
                      refine anyR_done (by kernel_rfl) ?_ _
                      refine NoPanic.normal ?_
                      have BE := Lib.hid (bel_trans BX.out hS.1)
                      clear hS SS
                      go_wp2_with fail
                      go_roundw
                      case rel => exact ⟨j + 1, by omega, by go_num, by rw [TK.out]; rfl, BE.out⟩
                      case measure => simp [intOf]; omega
                    · go_wp2_with fail
                      refine wp_region_noPanic ?_
                      refine wp_region_R (inFirst (fun W => Below wr.heap.size wr W ∧ W.cell? ⟨gP, i, none⟩ = some (.slice Ai (bitsTo m 10).length ci) ∧ W.cell? ⟨gB, j, none⟩ = some (.int .i64 b)) 13) (by kernel_rfl) ?_
                      have hS := SS.out wr.drew ⟨rfl, rfl, rfl, Nat.le_refl _, fun _ _ => rfl⟩
                      refine anyR_take (i := 0) (.bool true) rfl (by kernel_rfl) (by kernel_rfl) (by kernel_rfl) (by kernel_rfl) (fun _ _ _ h => h) (by assumption) ⟨by rfl, ?_⟩ ?_
                      · intro W hW
                        go_simp
                      try simp only [Act.put, List.setIfInBounds_toArray, List.set_cons_zero, List.set_cons_succ, List.getElem_toArray, List.getElem_cons_zero, List.getElem_cons_succ]
                      refine anyR_take (i := 1) (.bool true) rfl (by kernel_rfl) (by kernel_rfl) (by kernel_rfl) (by kernel_rfl) (fun _ _ _ h => h) (by assumption) ⟨by rfl, ?_⟩ ?_
                      · intro W hW
                        go_simp
                      try simp only [Act.put, List.setIfInBounds_toArray, List.set_cons_zero, List.set_cons_succ, List.getElem_toArray, List.getElem_cons_zero, List.getElem_cons_succ]
                      refine anyR_skip (i := 2) rfl (by kernel_rfl) (by kernel_rfl) (by kernel_rfl) (by kernel_rfl) (fun _ _ _ h => h) (by assumption) (by rfl) ?_
                      try simp only [Act.put, List.setIfInBounds_toArray, List.set_cons_zero, List.set_cons_succ, List.getElem_toArray, List.getElem_cons_zero, List.getElem_cons_succ]
                      refine anyR_skip (i := 3) rfl (by kernel_rfl) (by kernel_rfl) (by kernel_rfl) (by kernel_rfl) (fun _ _ _ h => h) (by assumption) (by rfl) ?_
                      try simp only [Act.put, List.setIfInBounds_toArray, List.set_cons_zero, List.set_cons_succ, List.getElem_toArray, List.getElem_cons_zero, List.getElem_cons_succ]
                      refine anyR_skip (i := 4) rfl (by kernel_rfl) (by kernel_rfl) (by kernel_rfl) (by kernel_rfl) (fun _ _ _ h => h) (by assumption) (by rfl) ?_
                      try simp only [Act.put, List.setIfInBounds_toArray, List.set_cons_zero, List.set_cons_succ, List.getElem_toArray, List.getElem_cons_zero, List.getElem_cons_succ]
                      refine anyR_skip (i := 5) rfl (by kernel_rfl) (by kernel_rfl) (by kernel_rfl) (by kernel_rfl) (fun _ _ _ h => h) (by assumption) (by rfl) ?_
                      try simp only [Act.put, List.setIfInBounds_toArray, List.set_cons_zero, List.set_cons_succ, List.getElem_toArray, List.getElem_cons_zero, List.getElem_cons_succ]
                      refine anyR_skip (i := 6) rfl (by kernel_rfl) (by kernel_rfl) (by kernel_rfl) (by kernel_rfl) (fun _ _ _ h => h) (by assumption) (by rfl) ?_
                      try simp only [Act.put, List.setIfInBounds_toArray, List.set_cons_zero, List.set_cons_succ, List.getElem_toArray, List.getElem_cons_zero, List.getElem_cons_succ]
                      refine anyR_skip (i := 7) rfl (by kernel_rfl) (by kernel_rfl) (by kernel_rfl) (by kernel_rfl) (fun _ _ _ h => h) (by assumption) (by rfl) ?_
                      try simp only [Act.put, List.setIfInBounds_toArray, List.set_cons_zero, List.set_cons_succ, List.getElem_toArray, List.getElem_cons_zero, List.getElem_cons_succ]
                      refine anyR_skip (i := 8) rfl (by kernel_rfl) (by kernel_rfl) (by kernel_rfl) (by kernel_rfl) (fun _ _ _ h => h) (by assumption) (by rfl) ?_
                      try simp only [Act.put, List.setIfInBounds_toArray, List.set_cons_zero, List.set_cons_succ, List.getElem_toArray, List.getElem_cons_zero, List.getElem_cons_succ]
                      refine anyR_skip (i := 9) rfl (by kernel_rfl) (by kernel_rfl) (by kernel_rfl) (by kernel_rfl) (fun _ _ _ h => h) (by assumption) (by rfl) ?_
                      try simp only [Act.put, List.setIfInBounds_toArray, List.set_cons_zero, List.set_cons_succ, List.getElem_toArray, List.getElem_cons_zero, List.getElem_cons_succ]
                      refine anyR_skip (i := 10) rfl (by kernel_rfl) (by kernel_rfl) (by kernel_rfl) (by kernel_rfl) (fun _ _ _ h => h) (by assumption) (by rfl) ?_
                      try simp only [Act.put, List.setIfInBounds_toArray, List.set_cons_zero, List.set_cons_succ, List.getElem_toArray, List.getElem_cons_zero, List.getElem_cons_succ]
                      refine anyR_take (i := 11) (.bool true) rfl (by kernel_rfl) (by kernel_rfl) (by kernel_rfl) (by kernel_rfl) (fun _ _ _ h => h) (by assumption) ⟨by rfl, ?_⟩ ?_
                      · intro W hW
                        go_simp
                      try simp only [Act.put, List.setIfInBounds_toArray, List.set_cons_zero, List.set_cons_succ, List.getElem_toArray, List.getElem_cons_zero, List.getElem_cons_succ]
                      refine anyR_take (i := 12) (.bool true) rfl (by kernel_rfl) (by kernel_rfl) (by kernel_rfl) (by kernel_rfl) (fun _ _ _ h => h) (by assumption) ⟨by rfl, ?_⟩ ?_
                      · intro W hW
                        go_simp
                      try simp only [Act.put, List.setIfInBounds_toArray, List.set_cons_zero, List.set_cons_succ, List.getElem_toArray, List.getElem_cons_zero, List.getElem_cons_succ]
                      refine anyR_done (by kernel_rfl) ?_ _
                      refine NoPanic.normal ?_
                      have BE := Lib.hid (bel_trans BX.out hS.1)
                      clear hS SS
                      go_wp2_with fail
                      go_roundw
                      case rel => exact ⟨j + 1, by omega, by go_num, by rw [TK.out]; rfl, BE.out⟩
                      case measure => simp [intOf]; omega
                  · obtain rfl : j = L.length := by omega
                    have dj2 := decide_eq_false (show ¬ (L.length : Int) < (L.length : Int) by omega)
                    rw [List.take_length, HA.out]
                    have cz9 := (B9.out.cell (p := ⟨gP, i, none⟩) gl5).trans KCZ.out
                    have RH := Lib.hid (r8Has_any Ai _ ci _ x wr (KZ.out.below B9.out))
                    rw [bitsTo_has (by omega)] at RH
                    obtain ⟨u, hu⟩ : ∃ u, m.testBit x = u := ⟨_, rfl⟩
                    rw [hu] at RH RG
                    clear hu
                    cases v
                    · go_wp2_with fail
                      go_roundw
                      case rel => exact ⟨x + 1, by omega, by go_num, by rw [RG.out]; rfl, B9.out⟩
                      case measure => simp [intOf]; omega
                    · cases hx1
                      · go_wp2_with fail
                        refine RH.out.mono ?_
                        rintro e w1 ⟨rfl, rfl⟩
                        go_wp2_with fail
                        go_roundw
                        case rel => exact ⟨x + 1, by omega, by go_num, by rw [RG.out]; rfl, B9.out⟩
                        case measure => simp [intOf]; omega
                      · go_wp2_with fail
                        go_roundw
                        case rel => exact ⟨x + 1, by omega, by go_num, by rw [RG.out]; rfl, B9.out⟩
                        case measure => simp [intOf]; omega
              · obtain rfl : x = N := by omega
                have dx := decide_eq_false (show ¬ (x : Int) < (x : Int) by omega)
                rw [stab_range OK.out hm (comp_free (pref_comp OK.out HC.out))]
                have RT := Lib.hid (r8Among_any AT ST.length cT ST Ai _ ci _ wr (ST4.out.below (bel_trans HB.out B7.out)).rws (KZ.out.below B7.out))
                rw [TAN.out m hm] at RT
                obtain ⟨u, hu⟩ : ∃ u, stabB x es m = u := ⟨_, rfl⟩
                rw [hu] at RT ⊢
                have uu : (u != u) = false := by simp
                clear hu
                go_wp2_with fail
                refine RT.out.mono ?_
                rintro e w9 ⟨rfl, b9⟩
                have BE := Lib.hid (bel_trans HB.out (bel_trans B7.out b9))
                clear b9
                go_wp2_with fail
                go_roundw
                case rel => exact ⟨i + 1, by omega, by go_num, BE.out⟩
                case measure => simp [intOf]; omega
      · have d0 := decide_eq_false (show ¬ (i : Int) < (SP.length : Int) by omega)
        have ST5 := Lib.hid (ST4.out.below HB.out)
        go_wp2_with fail
        go_loopw [20] (fun t wr => ∃ q : Nat, q ≤ ST.length ∧ t = .int .i64 q ∧ Below wO.heap.size wO wr) (fun t _ => ST.length - (intOf t).toNat)
        case atStart => exact ⟨0, Nat.zero_le _, rfl, Below.refl _ _⟩
        case round =>
          obtain ⟨q, hq, rfl, hb⟩ := hrel
          have B6 := Lib.hid hb
          clear hb
          by_cases hql : q < ST.length
          · have dqt := decide_eq_true (show (q : Int) < (ST.length : Int) by omega)
            have q0 : (0 : Int) ≤ (q : Int) := by omega
            have q1 : (q : Int) < (ST.length : Int) := by omega
            obtain ⟨gT, Aq, cq, zq, e1, _, _, hzq, czq, ozq, _⟩ := (ST5.out.below B6.out).at hql
            subst e1
            obtain ⟨o, ho, hco, rfl⟩ := TAT.out q zq hzq.out
            have RT := Lib.hid (r8Among_any (some ⟨gP, 0, none⟩) SP.length cP SP Aq _ cq _ wr (KS.out.below B6.out).rws ozq.ints)
            rw [PAN.out o ho hco] at RT
            clear ozq hzq
            go_wp2_with fail
            refine RT.out.mono ?_
            rintro e w9 ⟨rfl, b9⟩
            have BE := Lib.hid (bel_trans B6.out b9)
            clear b9 czq
            go_wp2_with fail
            go_roundw
            case rel => exact ⟨q + 1, by omega, by go_num, BE.out⟩
            case measure => simp [intOf]; omega
          · have dqt := decide_eq_false (show ¬ (q : Int) < (ST.length : Int) by omega)
            have H6 := Lib.hid (bel_trans B4.out (bel_trans HB.out B6.out))
            have KC6 := Lib.hid (KC.out.below B6.out)
            have KR6 := Lib.hid (KR.out.below B6.out)
            have KS6 := Lib.hid (KS.out.below B6.out)
            have f0 := KC6.out.cell 0 rfl
            clear KC KR KS C4 R4 SC4 SP4 ST4 ST5
            go_wp2_with fail
            refine (R8Set_any B m d ys N n10 wr (KB.out.below H6.out)).mono ?_
            rintro e w9 ⟨mm, BB, dd, hmm, rfl, oo, b9⟩
            have KC9 := Lib.hid (KC6.out.below b9)
            have KR9 := Lib.hid (KR6.out.below b9)
            have KS9 := Lib.hid (KS6.out.below b9)
            have H9 := Lib.hid (bel_trans H6.out b9)
            have OO := Lib.hid oo
            have g0 := KC9.out.cell 0 rfl
            have g1 := KC9.out.cell 1 rfl
            have IA := Lib.hid (isAdm_ok N es OK.out mm hmm Q es.length dq BB dd w9 KR9.out oo.ints)
            have FD := Lib.hid (FND.out mm hmm)
            obtain ⟨u, hu⟩ : ∃ u, goodB N es mm = u := ⟨_, rfl⟩
            rw [hu] at IA FD
            clear hu b9 oo f0 KC6 KR6 KS6
            go_wp2_with fail
            refine IA.out.mono ?_
            rintro e w10 ⟨rfl, b10⟩
            have H10 := Lib.hid (bel_trans H9.out b10)
            have KS10 := Lib.hid (KS9.out.below b10)
            have O10 := Lib.hid (OO.out.below b10)
            clear b10 g0 g1 IA
            cases u
            · go_wp2_with fail
              go_ret
              exact ⟨rfl, H10.out⟩
            · have FT := Lib.hid (FD.out rfl)
              clear FD
              go_wp2_with fail
              go_loop [22, 23] (fun fd t => ∃ q : Nat, q ≤ SP.length ∧ t = .int .i64 q ∧ fd = .bool ((SP.take q).any fun z => (bitsTo mm 10).all fun b => z.any (· == b))) (fun _ t => SP.length - (intOf t).toNat)
              case atStart => exact ⟨0, Nat.zero_le _, rfl, rfl⟩
              case round =>
                obtain ⟨q, hq, rfl, rfl⟩ := hrel
                by_cases hql2 : q < SP.length
                · have dq2 := decide_eq_true (show (q : Int) < (SP.length : Int) by omega)
                  have q0 : (0 : Int) ≤ (q : Int) := by omega
                  have q1 : (q : Int) < (SP.length : Int) := by omega
                  obtain ⟨g', Aq, cq, zq, e1, _, _, hzq, czq, ozq, _⟩ := KS10.out.at hql2
                  simp only [Option.some.injEq, Addr.mk.injEq, and_true] at e1
                  subst e1
                  have RI := Lib.hid (r8Inside_any BB _ dd _ Aq _ cq _ w10 O10.out.ints ozq.ints)
                  have TK := Lib.hid (show ((SP.take (q + 1)).any fun z => (bitsTo mm 10).all fun b => z.any (· == b)) = (((SP.take q).any fun z => (bitsTo mm 10).all fun b => z.any (· == b)) || (bitsTo mm 10).all fun b => zq.any (· == b)) by rw [take_snoc' hzq.out, List.any_append]; simp)
                  obtain ⟨u2, hu2⟩ : ∃ u, ((bitsTo mm 10).all fun b => zq.any (· == b)) = u := ⟨_, rfl⟩
                  obtain ⟨v2, hv2⟩ : ∃ v, ((SP.take q).any fun z => (bitsTo mm 10).all fun b => z.any (· == b)) = v := ⟨_, rfl⟩
                  rw [hu2, hv2] at TK
                  rw [hu2] at RI
                  rw [hv2]
                  clear hu2 hv2 ozq hzq
                  cases v2
                  · go_wp2_with fail
                    refine RI.out.mono ?_
                    rintro e w1 ⟨rfl, rfl⟩
                    go_wp2_with fail
                    go_round
                    case rel => exact ⟨q + 1, by omega, by go_num, by rw [TK.out]; rfl⟩
                    case measure => simp [intOf]; omega
                  · go_wp2_with fail
                    go_round
                    case rel => exact ⟨q + 1, by omega, by go_num, by rw [TK.out]; rfl⟩
                    case measure => simp [intOf]; omega
                · obtain rfl : q = SP.length := by omega
                  have dq2 := decide_eq_false (show ¬ (SP.length : Int) < (SP.length : Int) by omega)
                  rw [List.take_length, FT.out]
                  go_wp2_with fail
                  go_ret
                  exact ⟨rfl, H10.out⟩
end Go.Proofs.Yteejfjgofpolkaa
