/- The search over all rankings, walked whole. -/
import Derived.Test.YtikcbconfinibaaKemW
namespace Go.Proofs.Ytikcbconfinibaa
set_option linter.unusedVariables false
set_option linter.unusedSimpArgs false
set_option maxRecDepth 100000
open Go.RowKit Go.Deep
theorem place_ok (n : Nat) (rs : List (List Nat)) (ws : List Int) (ok : PrOk n rs ws) (RA : Option Addr) (rc : Nat) (WA : Option Addr) (wc g g1 gP cP : Nat) (vs : List Value) :
    ∀ (d : Nat) (bg : List Nat) (L : Nat), bg.length = L → L + d = n → bg.Nodup → (∀ x ∈ bg, x < n) → ∀ (A : Option Addr) (c : Nat) (st : Option (List Nat)) (w : World),
    Env (prs (rs.zip ws)) n g rs ws RA rc WA wc g1 gP cP vs (cloV g1 g) w → OwnI w (g + 2) A L c (zr bg) → BS (prs (rs.zip ws)) n g w st →
    Calls Try.prog 38 #[.slice A L c, .pointer (some ⟨g1, 0, none⟩), .pointer (some ⟨g - 1, 0, none⟩), .pointer (some ⟨g, 0, none⟩), .pointer (some ⟨g + 1, 0, none⟩), .pointer (some ⟨g + 2, 0, none⟩)] w
      fun e w' => e = .returned (.tuple #[]) ∧ ∃ st', BS (prs (rs.zip ws)) n g w' st' ∧ Res (prs (rs.zip ws)) n bg st st' ∧ Only g (g + 2) w w' := by
  intro d
  induction d with
  | zero =>
    intro bg L hL hd nd hlt A c st w E O B
    subst hL
    exact place_leaf n rs ws ok RA rc WA wc g g1 gP cP vs _ bg ((nodup_perm n bg nd hlt).2 (by omega)) A c st w E O B
  | succ d ih =>
    intro bg L hL hd nd hlt A c st w E O B
    have HE := Lib.hid E
    have HO := Lib.hid O
    have HB := Lib.hid B
    have OKP := Lib.hid ok
    have n6 := ok.n6
    have HL := Lib.hid hL
    have HD := Lib.hid (show L < n by omega)
    have en : ((L : Int) == (n : Int)) = false := by simp; omega
    have IHA := Lib.hid (fun (o : Nat) (ho : o < n) (hno : o ∉ bg) => ih (bg ++ [o]) (L + 1) (by rw [List.length_append, hL]; rfl) (by omega) (List.nodup_append.2 ⟨nd, by simp, fun a ha b hb e => by simp at hb; subst hb; subst e; exact hno ha⟩) (fun x hx => by
      rcases List.mem_append.1 hx with hx | hx
      · exact hlt x hx
      · simp at hx; omega))
    clear E O B ok ih hL hd nd hlt
    have y0 := HE.out.box.cell 0 rfl
    have y1 := HE.out.box.cell 1 rfl
    obtain ⟨w0, hb0, hg0, hpv⟩ := HE.out.base
    have PV := Lib.hid (hpv.below hb0)
    clear hb0 hg0 hpv
    go_enter Try.func38, Try.ntmps38
    go_wp2_with fail
    refine (options_ok n rs ws OKP.out RA rc WA wc _ PV.out).mono ?_
    rintro e w1 ⟨rfl, b1⟩
    have E1 := Lib.hid (HE.out.below b1)
    have B1 := Lib.hid b1
    have PV1 := Lib.hid (PV.out.below b1)
    clear b1 y0 y1 PV
    have y0 := E1.out.box.cell 0 rfl
    have y1 := E1.out.box.cell 1 rfl
    go_wp2_with fail
    refine (options_ok n rs ws OKP.out RA rc WA wc _ PV1.out).mono ?_
    rintro e w2 ⟨rfl, b2⟩
    have B2 := Lib.hid (bel_trans B1.out b2)
    clear b2 y0 y1 PV1 B1 E1
    go_wp2_with fail
    go_loopw [29] (fun q wr => ∃ (o : Nat) (st1 : Option (List Nat)), o ≤ n ∧ q = .int .i64 o ∧ BS (prs (rs.zip ws)) n g wr st1 ∧ ResL (prs (rs.zip ws)) n bg o st st1 ∧ Only g (g + 2) w wr) (fun q _ => n - (intOf q).toNat)
    case atStart => exact ⟨0, st, Nat.zero_le _, rfl, HB.out.below B2.out, ResL.start, Only.of_below B2.out g (g + 2)⟩
    case round =>
      obtain ⟨o, st1, ho, rfl, hbs, hrl, how⟩ := hrel
      have BS1 := Lib.hid hbs
      have RL := Lib.hid hrl
      have HW := Lib.hid how
      clear hbs hrl how
      by_cases hon : o < n
      · have d0 := decide_eq_true (show (o : Int) < (n : Int) by omega)
        have ER := Lib.hid (HE.out.only HW.out)
        have OR := Lib.hid (HO.out.onlyK HW.out (Nat.le_refl _))
        have ZA := Lib.hid (zr_any bg o)
        go_wp2_with fail
        refine (contains_any A L c (zr bg) (o : Int) _ OR.out.ints).mono ?_
        rintro e w3 ⟨rfl, rfl⟩
        rw [ZA.out]
        cases hm : bg.elem o
        · have hno : o ∉ bg := fun h => by rw [List.elem_iff.2 h] at hm; cases hm
          have IH := Lib.hid (IHA.out o hon hno)
          clear hm hno
          have yf := ER.out.fn.cell 0 rfl
          go_wp2_with fail
          have FNC := Lib.hid (fun (W : World) (hW : Below wr.heap.size wr W) => (show W.cell? ⟨g + 2, 0, none⟩ = some (cloV g1 g) from (ER.out.below hW).fn.cell 0 rfl))
          have sz : g + 2 < wr.heap.size := ER.out.fn.1
          refine wp_region_noPanic ?_
          refine wp_region_R (inFirst (fun W => W.cell? ⟨g + 2, 0, none⟩ = some (cloV g1 g)) 7) (by kernel_rfl) ?_
          have bd : Below wr.heap.size wr wr.drew := ⟨rfl, rfl, rfl, Nat.le_refl _, fun _ _ => rfl⟩
          have hS := FNC.out _ bd
          obtain ⟨v, hv⟩ : ∃ x, wr.drew = x := ⟨_, rfl⟩
          rw [hv] at bd hS
          rw [hv]
          have BD := Lib.hid bd
          clear hv bd yf
          have on : (o : Int) ≤ 6 := by omega
          have l6 : L ≤ 6 := by have := HD.out; omega
          have bds := BD.out.size
          refine anyR_take (i := 0) (cloV g1 g) rfl (by kernel_rfl) (by kernel_rfl) (by kernel_rfl) (by kernel_rfl) (fun _ _ _ h => h) (by assumption) ⟨by rfl, ?_⟩ ?_
          · intro W hW
            go_simp
          try simp only [Act.put, List.setIfInBounds_toArray, List.set_cons_zero, List.set_cons_succ, List.getElem_toArray, List.getElem_cons_zero, List.getElem_cons_succ]
          refine anyR_take (i := 1) (.slice A L c) rfl (by kernel_rfl) (by kernel_rfl) (by kernel_rfl) (by kernel_rfl) (fun _ _ _ h => h) (by assumption) ⟨by rfl, ?_⟩ ?_
          · intro W hW
            go_simp
          try simp only [Act.put, List.setIfInBounds_toArray, List.set_cons_zero, List.set_cons_succ, List.getElem_toArray, List.getElem_cons_zero, List.getElem_cons_succ]
          refine anyR_take (i := 3) (.int .i64 (o : Nat)) rfl (by kernel_rfl) (by kernel_rfl) (by kernel_rfl) (by kernel_rfl) (fun _ _ _ h => h) (by assumption) ⟨by rfl, ?_⟩ ?_
          · intro W hW
            go_simp
          try simp only [Act.put, List.setIfInBounds_toArray, List.set_cons_zero, List.set_cons_succ, List.getElem_toArray, List.getElem_cons_zero, List.getElem_cons_succ]
          refine anyR_two (i := 2) (j := 4) (by kernel_rfl) rfl rfl ?_ ?_
          · intro K hK
            go_simp
            go_at_call 41
            refine (clone64_any A L c (zr bg) v (OR.out.below BD.out).ints (by omega)).mono ?_
            rintro e w3 ⟨A3, c3, rfl, o3, b3⟩
            have B3 := Lib.hid (bel_trans BD.out b3)
            have O3 := Lib.hid (o3.mono (b2 := g + 2) (by omega))
            have XB := Lib.hid (fun x hx => Nat.le_trans bds (o3.block x hx).1)
            refine hK.out _ _ (fun _ => FNC.out _ B3.out) ?_
            clear o3 b3
            clear hK K
            try simp only [Act.put, List.setIfInBounds_toArray, List.set_cons_zero, List.set_cons_succ, List.getElem_toArray, List.getElem_cons_zero, List.getElem_cons_succ]
            refine anyR_one (i := 4) (by kernel_rfl) rfl ?_
            intro K hK
            go_simp
            have b4 := bel_alloc w3 (.cells #[.int .i64 (o : Int)] 2)
            have B4 := Lib.hid (bel_trans B3.out b4)
            have O4 := Lib.hid (O3.out.below b4)
            have HCN : (w3.alloc (.cells #[.int .i64 (o : Int)] 2)).cell? ⟨w3.heap.size, 0, none⟩ = some (.int .i64 (o : Int)) := World.cell?_alloc_at _ _ _ _ rfl
            have s4 : g + 2 ≤ (w3.alloc (.cells #[.int .i64 (o : Int)] 2)).heap.size := by have := B4.out.size; omega
            refine hK.out _ _ (fun _ => FNC.out _ B4.out) ?_
            clear b4 B3 O3
            clear hK K
            try simp only [Act.put, List.setIfInBounds_toArray, List.set_cons_zero, List.set_cons_succ, List.getElem_toArray, List.getElem_cons_zero, List.getElem_cons_succ]
            refine anyR_one (i := 5) (by kernel_rfl) rfl ?_
            intro K hK
            refine step_app_int _ (by rfl) _ _ (by rfl) (g + 2) A3 L c3 (zr bg) (by rfl) O4.out (o : Int) (by omega) (by omega) w3.heap.size (by rfl) HCN (by omega) s4 ?_
            intro A5 c5 w5 p1 p2 p3
            have OW := Lib.hid (show OwnI w5 (g + 2) A5 (L + 1) c5 (zr (bg ++ [o])) from by
              have := p1
              rwa [show zr bg ++ [(o : Int)] = zr (bg ++ [o]) by simp [zr]] at this)
            have B5 := Lib.hid (B4.out.grown p2 B4.out.size XB.out)
            have E5 := Lib.hid (ER.out.below B5.out)
            have BS5 := Lib.hid (BS1.out.below B5.out)
            refine hK.out _ _ (fun _ => FNC.out _ B5.out) ?_
            clear p1 p2 p3 B4 O4 HCN
            clear hK K
            try simp only [Act.put, List.setIfInBounds_toArray, List.set_cons_zero, List.set_cons_succ, List.getElem_toArray, List.getElem_cons_zero, List.getElem_cons_succ]
            refine anyR_one (i := 6) (by kernel_rfl) rfl ?_
            intro K hK
            unfold cloV
            go_simp
            go_at_call 38
            refine (IH.out A5 c5 st1 w5 E5.out OW.out BS5.out).mono ?_
            rintro e w6 ⟨rfl, st2, bs2, res2, o6⟩
            refine hK.out _ _ (fun _ => (E5.out.only o6).fn.cell 0 rfl) ?_
            clear hK K
            try simp only [Act.put, List.setIfInBounds_toArray, List.set_cons_zero, List.set_cons_succ, List.getElem_toArray, List.getElem_cons_zero, List.getElem_cons_succ]
            refine anyR_done (by kernel_rfl) ?_ _
            refine NoPanic.normal ?_
            have BS2 := Lib.hid bs2
            have RS2 := Lib.hid (RL.out.step res2)
            have O6 := Lib.hid ((HW.out.trans (Only.of_below B5.out g (g + 2))).trans o6)
            clear bs2 res2 o6 hS
            go_wp2_with fail
            go_roundw
            case rel => exact ⟨o + 1, st2, by omega, by go_num, BS2.out, RS2.out, O6.out⟩
            case measure => simp [intOf]; omega
          · intro K hK
            go_simp
            have b3 := bel_alloc v (.cells #[.int .i64 (o : Int)] 2)
            have HC0 : (v.alloc (.cells #[.int .i64 (o : Int)] 2)).cell? ⟨v.heap.size, 0, none⟩ = some (.int .i64 (o : Int)) := World.cell?_alloc_at _ _ _ _ rfl
            have vl : v.heap.size < (v.alloc (.cells #[.int .i64 (o : Int)] 2)).heap.size := by simp
            have B3 := Lib.hid (bel_trans BD.out b3)
            refine hK.out _ _ (fun _ => FNC.out _ B3.out) ?_
            clear b3
            clear hK K
            try simp only [Act.put, List.setIfInBounds_toArray, List.set_cons_zero, List.set_cons_succ, List.getElem_toArray, List.getElem_cons_zero, List.getElem_cons_succ]
            refine anyR_one (i := 2) (by kernel_rfl) rfl ?_
            intro K hK
            go_simp
            go_at_call 41
            obtain ⟨v2, hv2⟩ : ∃ x, v.alloc (.cells #[.int .i64 (o : Int)] 2) = x := ⟨_, rfl⟩
            rw [hv2] at HC0 vl B3
            rw [hv2]
            clear hv2
            refine (clone64_any A L c (zr bg) v2 (OR.out.below B3.out).ints (by omega)).mono ?_
            rintro e w3 ⟨A3, c3, rfl, o3, b4⟩
            have B4 := Lib.hid (bel_trans B3.out b4)
            have s3 := B3.out.size
            have O4 := Lib.hid (o3.mono (b2 := g + 2) (by omega))
            have XB := Lib.hid (fun x hx => Nat.le_trans s3 (o3.block x hx).1)
            have HCN := (b4.cell (p := ⟨v.heap.size, 0, none⟩) vl).trans HC0
            have s4 : g + 2 ≤ w3.heap.size := by have := B4.out.size; omega
            refine hK.out _ _ (fun _ => FNC.out _ B4.out) ?_
            clear o3 b4 HC0 vl B3
            clear hK K
            try simp only [Act.put, List.setIfInBounds_toArray, List.set_cons_zero, List.set_cons_succ, List.getElem_toArray, List.getElem_cons_zero, List.getElem_cons_succ]
            refine anyR_one (i := 5) (by kernel_rfl) rfl ?_
            intro K hK
            refine step_app_int _ (by rfl) _ _ (by rfl) (g + 2) A3 L c3 (zr bg) (by rfl) O4.out (o : Int) (by omega) (by omega) v.heap.size (by rfl) HCN (by omega) s4 ?_
            intro A5 c5 w5 p1 p2 p3
            have OW := Lib.hid (show OwnI w5 (g + 2) A5 (L + 1) c5 (zr (bg ++ [o])) from by
              have := p1
              rwa [show zr bg ++ [(o : Int)] = zr (bg ++ [o]) by simp [zr]] at this)
            have B5 := Lib.hid (B4.out.grown p2 B4.out.size XB.out)
            have E5 := Lib.hid (ER.out.below B5.out)
            have BS5 := Lib.hid (BS1.out.below B5.out)
            refine hK.out _ _ (fun _ => FNC.out _ B5.out) ?_
            clear p1 p2 p3 B4 O4 HCN
            clear hK K
            try simp only [Act.put, List.setIfInBounds_toArray, List.set_cons_zero, List.set_cons_succ, List.getElem_toArray, List.getElem_cons_zero, List.getElem_cons_succ]
            refine anyR_one (i := 6) (by kernel_rfl) rfl ?_
            intro K hK
            unfold cloV
            go_simp
            go_at_call 38
            refine (IH.out A5 c5 st1 w5 E5.out OW.out BS5.out).mono ?_
            rintro e w6 ⟨rfl, st2, bs2, res2, o6⟩
            refine hK.out _ _ (fun _ => (E5.out.only o6).fn.cell 0 rfl) ?_
            clear hK K
            try simp only [Act.put, List.setIfInBounds_toArray, List.set_cons_zero, List.set_cons_succ, List.getElem_toArray, List.getElem_cons_zero, List.getElem_cons_succ]
            refine anyR_done (by kernel_rfl) ?_ _
            refine NoPanic.normal ?_
            have BS2 := Lib.hid bs2
            have RS2 := Lib.hid (RL.out.step res2)
            have O6 := Lib.hid ((HW.out.trans (Only.of_below B5.out g (g + 2))).trans o6)
            clear bs2 res2 o6 hS
            go_wp2_with fail
            go_roundw
            case rel => exact ⟨o + 1, st2, by omega, by go_num, BS2.out, RS2.out, O6.out⟩
            case measure => simp [intOf]; omega
        · have hin := List.elem_iff.1 hm
          have RN := Lib.hid (RL.out.skip hin)
          clear hm hin
          go_wp2_with fail
          go_roundw
          case rel => exact ⟨o + 1, st1, by omega, by go_num, BS1.out, RN.out, HW.out⟩
          case measure => simp [intOf]; omega
      · obtain rfl : n = o := by omega
        have d0 := decide_eq_false (show ¬ (n : Int) < (n : Int) by omega)
        go_wp2_with fail
        exact bodyPost_end (v := .tuple #[]) (by simp [results, Try.results38, go_sem]) rfl ⟨rfl, st1, BS1.out, RL.out.done (by rw [HL.out]; exact HD.out), HW.out⟩
end Go.Proofs.Ytikcbconfinibaa
