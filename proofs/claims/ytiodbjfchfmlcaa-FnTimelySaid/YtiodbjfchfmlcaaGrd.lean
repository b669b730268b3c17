/- GreedyBudget, walked: its projects differ. -/
import Derived.Test.YtiodbjfchfmlcaaIns
import Derived.Test.YtiodbjfchfmlcaaStepApp
namespace Go.Proofs.Ytiodbjfchfmlcaa
set_option linter.unusedVariables false
set_option linter.unusedSimpArgs false
set_option maxRecDepth 100000
open Go.RowKit Go.Deep
theorem sup_snoc {α : Type} {out l : List α} {k : Nat} {x : α} (h : out.Sublist (l.take k)) (hx : l[k]? = some x) : (out ++ [x]).Sublist (l.take (k + 1)) := by
  rw [List.take_add_one, hx]
  exact h.append (List.Sublist.refl _)
theorem sup_skip {α : Type} {out l : List α} {k : Nat} (h : out.Sublist (l.take k)) : out.Sublist (l.take (k + 1)) := by
  rw [List.take_add_one]
  exact h.trans (List.sublist_append_left _ _)
/-- What GreedyBudget gives. -/
def GrdR (lo m : Nat) (r : Ending) (w' : World) : Prop :=
  ∃ (O : Option Addr) (L oc : Nat) (zs : List Int), r = .returned (.tuple #[.slice O L oc, .bool true]) ∧ OwnI w' lo O L oc zs ∧ zs.Nodup ∧ (∀ z ∈ zs, 0 ≤ z ∧ z < m) ∧ zs.length ≤ m
set_option maxHeartbeats 4000000 in
theorem greedy_ok (CA : Option Addr) (m cc : Nat) (AA : Option Addr) (n ac : Nat) (e : El) (w : World) (h : ElW w CA m cc AA n ac e) (ok : EOk e) :
    Calls Try.prog 14 #[.agg #[.int .i64 e.mon, .slice CA m cc, .slice AA n ac]] w fun r w' => GrdR w.heap.size m r w' ∧ Below w.heap.size w w' := by
  have hm := h.cl
  have hn := h.al
  have h6 := ok.cs1
  have a6 := ok.ap1
  have mon := ok.mon
  have b0 := bel_alloc w (.cells #[.int .i64 e.mon, .slice CA m cc, .slice AA n ac] 27)
  have C0 := (Cs.new w [.int .i64 e.mon, .slice CA m cc, .slice AA n ac] 27)
  have VE := Lib.hid (validEl_ok CA m cc AA n ac e _ (h.below b0) ok)
  have HB0 := Lib.hid b0
  have HC0 := Lib.hid C0
  have H0 := Lib.hid h
  have OC := Lib.hid ok.cost
  simp only [List.toArray] at VE HC0
  clear h ok b0 C0
  go_enter Try.func14, Try.ntmps14
  go_wp2_with fail
  refine VE.out.mono ?_
  rintro r w1 ⟨rfl, b1⟩
  have C1 := Lib.hid (HC0.out.below b1)
  have B1 := Lib.hid (bel_trans HB0.out b1)
  have H1 := Lib.hid (H0.out.below B1.out)
  have O1 := Lib.hid (ownI_lit w1)
  have BL := Lib.hid (bel_alloc w1 (.cells #[] 2))
  have y1 := (C1.out.below BL.out).cell 1 rfl
  clear b1 VE HB0 HC0 H0
  go_wp2_with fail
  go_loopw [4, 17] (fun s t wr => ∃ (k : Nat) (O : Option Addr) (oc : Nat), k ≤ m ∧ s = .slice O k oc ∧ t = .int .i64 k ∧ OwnI wr w1.heap.size O k oc (zns (List.range k)) ∧ Below w1.heap.size w1 wr) (fun _ t _ => m - (intOf t).toNat)
  case atStart => exact ⟨0, _, 0, Nat.zero_le _, rfl, rfl, by simpa [zns] using O1.out, BL.out⟩
  case round =>
    obtain ⟨k, O, oc, hk, rfl, rfl, ho, hb⟩ := hrel
    have HO := Lib.hid ho
    have HB := Lib.hid hb
    have bsz := hb.size
    clear ho hb O1 BL y1
    by_cases hlt : k < m
    · have d0 := decide_eq_true (show (k : Int) < (m : Int) by omega)
      have NX := Lib.hid (show zns (List.range (k + 1)) = zns (List.range k) ++ [(k : Int)] by rw [List.range_succ, zns_snoc])
      go_wp2_with (at_builtin; refine app_int wr rfl _ _ rfl w1.heap.size O k oc _ rfl HO.out (k : Int) (by omega) (by omega) rfl (by omega) bsz ?_; intro A' c' w3 p1 p2)
      go_roundw
      case rel => exact ⟨k + 1, A', c', by omega, rfl, by go_num, by rw [NX.out]; exact p1, HB.out.grown p2 HB.out.size (fun x hx => (HO.out.block x hx).1)⟩
      case measure => simp [intOf]; omega
    · obtain rfl : m = k := by omega
      obtain ⟨wo, rfl⟩ : ∃ z, z = wr := ⟨_, rfl⟩
      obtain ⟨g, rfl, gl, gl2⟩ := HO.out.form (by omega)
      have d0 := decide_eq_false (show ¬ (m : Int) < (m : Int) by omega)
      have HN := Lib.hid (show n ≤ 1000 by omega)
      have ST := Lib.hid (sortStable_any w1 w1.heap.size g w.heap.size m oc _ wo HO.out (Nat.le_refl _) HB.out (by omega) (fun W x y hW => greedy1_any w.heap.size e.mon CA m cc AA n ac e.ap x y W (H1.out.below hW).a HN.out (C1.out.below hW)))
      go_wp2_with fail
      refine ST.out.mono ?_
      rintro r w2 ⟨rfl, zs, hp, ho, hb⟩
      have HP := Lib.hid hp
      have O2 := Lib.hid ho
      have B2 := Lib.hid hb
      have hzl := ho.len
      have C2 := Lib.hid (C1.out.below hb)
      have H2 := Lib.hid (H1.out.below hb)
      have sz2 := hb.size
      have y0 := C2.out.cell 0 rfl
      have BA := Lib.hid (bel_alloc w2 (.cells #[] 2))
      have y0' := (C2.out.below BA.out).cell 0 rfl
      have O3 := Lib.hid (ownI_lit w2)
      clear hp ho hb ST HO HB
      go_wp2_with fail
      go_region
      have BD := Lib.hid (show Below w2.heap.size w2 (w2.alloc (.cells #[] 2)).drew from below_drewN BA.out 1)
      obtain ⟨w3, hw3⟩ : ∃ z, (w2.alloc (.cells #[] 2)).drew = z := ⟨_, rfl⟩
      have O3' := Lib.hid (show OwnI (w2.alloc (.cells #[] 2)).drew w2.heap.size (some ⟨w2.heap.size, 0, none⟩) 0 0 [] from O3.out)
      rw [hw3] at BD O3'
      rw [hw3]
      have SN := Lib.hid (show ∀ z ∈ zs, 0 ≤ z ∧ z < m from fun z hz => by
        obtain ⟨x, hx, rfl⟩ := List.mem_map.1 (HP.out.mem_iff.1 hz)
        have := List.mem_range.1 hx
        omega)
      have ND := Lib.hid (show zs.Nodup from HP.out.symm.nodup (by
        unfold zns
        exact List.Pairwise.map _ (fun a b hab e => hab (by omega)) List.nodup_range))
      clear hw3 O3 BA y0 y0' HP
      go_wp2_with fail
      go_loopw [6, 7, 33] (fun s u t wr => ∃ (k L oc : Nat) (O : Option Addr) (lf : Int) (out : List Int), k ≤ m ∧ s = .slice O L oc ∧ u = .int .i64 lf ∧ t = .int .i64 k ∧ 0 ≤ lf ∧ lf ≤ 60 ∧ out.Sublist (zs.take k) ∧ OwnI wr w2.heap.size O L oc out ∧ Below w2.heap.size w2 wr) (fun _ _ t _ => m - (intOf t).toNat)
      case atStart => exact ⟨0, 0, 0, _, e.mon, [], Nat.zero_le _, rfl, rfl, rfl, mon.1, mon.2, List.nil_sublist _, O3'.out, BD.out⟩
      case round =>
        obtain ⟨k, L, oc, O, lf, out, hk, rfl, rfl, rfl, l0, l60, hsl, ho, hb⟩ := hrel
        have HSL := Lib.hid hsl
        have HO := Lib.hid ho
        have HB := Lib.hid hb
        have bsz := hb.size
        have hL := ho.len
        have hL2 := hsl.length_le
        rw [List.length_take] at hL2
        clear hsl ho hb O3' BD
        by_cases hlt : k < m
        · have d1 := decide_eq_true (show (k : Int) < (m : Int) by omega)
          obtain ⟨x, hx⟩ : ∃ x, zs[k]? = some x := ⟨_, List.getElem?_eq_getElem (by omega)⟩
          have xb := SN.out x (List.mem_of_getElem? hx)
          obtain ⟨x, rfl⟩ := Int.eq_ofNat_of_zero_le xb.1
          have cx := (O2.out.below HB.out).cell hx
          have C3 := Lib.hid (C2.out.below HB.out)
          have H3 := Lib.hid (H2.out.below HB.out)
          have y0 := C3.out.cell 0 rfl
          have y1 := C3.out.cell 1 rfl
          have y2 := C3.out.cell 2 rfl
          have NX := Lib.hid (sup_snoc HSL.out hx)
          have NS := Lib.hid (sup_skip HSL.out)
          have k0 : (0 : Int) ≤ (k : Int) := by omega
          have SU := Lib.hid (supporters_ok e.mon CA m cc AA n ac e.ap x wr H3.out.a HN.out)
          obtain ⟨bc, oC, c, rfl, hbc, hcc, c0, c1, hcz⟩ := H2.out.c.at (show x < m by omega)
          have cb := OC.out c (List.mem_of_getElem? hcz.out)
          have HC := Lib.hid hcc
          have gl3 := (O2.out.block g rfl).2
          have gl' : g < wr.heap.size := by omega
          clear hx hcc hcz HSL
          go_wp2_with fail
          refine SU.out.mono ?_
          rintro r w4 ⟨S, Ls, sc, rfl, hs, b4⟩
          have HB4 := Lib.hid (bel_trans HB.out b4)
          have C4 := Lib.hid (C3.out.below b4)
          have H4 := Lib.hid (H3.out.below b4)
          have bk := Lib.hid (HC.out)
          have cc4 := (HB4.out.cell (p := ⟨bc, oC + x, none⟩) hbc).trans HC.out
          have O4 := Lib.hid (HO.out.below b4)
          have sz4 := b4.size
          have y0 := C4.out.cell 0 rfl
          have y1 := C4.out.cell 1 rfl
          have y2 := C4.out.cell 2 rfl
          have xm : (x : Int) < (m : Int) := by omega
          have x0 : (0 : Int) ≤ (x : Int) := by omega
          have BW := Lib.hid (fun W (hW : Below w2.heap.size w2 W) => (show Below w2.heap.size w2 W ∧ W.cell? ⟨w.heap.size, 1, none⟩ = some (.slice (some ⟨bc, oC, none⟩) m cc) ∧ W.cell? ⟨bc, oC + x, none⟩ = some (.int .i64 c) from ⟨hW, (C2.out.below hW).cell 1 rfl, (hW.cell (p := ⟨bc, oC + x, none⟩) hbc).trans HC.out⟩))
          clear b4 hs SU bk HO C3 H3 HB
          by_cases hL0 : 0 < Ls
          · have d2 := decide_eq_true (show (0 : Int) < (Ls : Int) by omega)
            by_cases hle : c ≤ lf
            · have d3 := decide_eq_true hle
              have WS : IntKind.i64.wrap (lf - c) = lf - c := IntWalk.i64_in _ (by omega)
              have bdL : Below w2.heap.size w2 w4 := HB4.out
              have sz24 := bdL.size
              clear bdL
              go_wp2_with fail
              refine wp_region_noPanic ?_
              refine wp_region_R (inFirst (fun W => Below w2.heap.size w2 W ∧ W.cell? ⟨w.heap.size, 1, none⟩ = some (.slice (some ⟨bc, oC, none⟩) m cc) ∧ W.cell? ⟨bc, oC + x, none⟩ = some (.int .i64 c)) 13) (by kernel_rfl) ?_
              have bd : Below w2.heap.size w2 w4.drew := below_drewN HB4.out 1
              have hS := BW.out _ bd
              obtain ⟨v, hv⟩ : ∃ x, w4.drew = x := ⟨_, rfl⟩
              rw [hv] at bd hS
              rw [hv]
              have BD := Lib.hid bd
              have sz4v : w4.heap.size ≤ v.heap.size := by rw [← hv]; exact Nat.le_refl _
              have O4v := Lib.hid (show OwnI v w2.heap.size O L oc out from by rw [← hv]; exact O4.out)
              clear hv bd y0 y1 y2
              refine anyR_take (i := 0) (.slice O L oc) rfl (by kernel_rfl) (by kernel_rfl) (by kernel_rfl) (by kernel_rfl) (fun _ _ _ h => h) (by assumption) ⟨by rfl, ?_⟩ ?_
              · intro W hW
                go_simp
              try simp only [Act.put, List.setIfInBounds_toArray, List.set_cons_zero, List.set_cons_succ, List.getElem_toArray, List.getElem_cons_zero, List.getElem_cons_succ]
              refine anyR_take (i := 1) (.int .i64 (x : Nat)) rfl (by kernel_rfl) (by kernel_rfl) (by kernel_rfl) (by kernel_rfl) (fun _ _ _ h => h) (by assumption) ⟨by rfl, ?_⟩ ?_
              · intro W hW
                go_simp
              try simp only [Act.put, List.setIfInBounds_toArray, List.set_cons_zero, List.set_cons_succ, List.getElem_toArray, List.getElem_cons_zero, List.getElem_cons_succ]
              refine anyR_take (i := 4) (.int .i64 lf) rfl (by kernel_rfl) (by kernel_rfl) (by kernel_rfl) (by kernel_rfl) (fun _ _ _ h => h) (by assumption) ⟨by rfl, ?_⟩ ?_
              · intro W hW
                go_simp
              try simp only [Act.put, List.setIfInBounds_toArray, List.set_cons_zero, List.set_cons_succ, List.getElem_toArray, List.getElem_cons_zero, List.getElem_cons_succ]
              refine anyR_take (i := 5) (.pointer (some ⟨w.heap.size, 1, none⟩)) rfl (by kernel_rfl) (by kernel_rfl) (by kernel_rfl) (by kernel_rfl) (fun _ _ _ h => h) (by assumption) ⟨by rfl, ?_⟩ ?_
              · intro W hW
                go_simp
              try simp only [Act.put, List.setIfInBounds_toArray, List.set_cons_zero, List.set_cons_succ, List.getElem_toArray, List.getElem_cons_zero, List.getElem_cons_succ]
              refine anyR_take (i := 6) (.slice (some ⟨bc, oC, none⟩) m cc) rfl (by kernel_rfl) (by kernel_rfl) (by kernel_rfl) (by kernel_rfl) (fun _ _ _ h => h) (by assumption) ⟨by rfl, ?_⟩ ?_
              · intro W hW
                go_simp
              try simp only [Act.put, List.setIfInBounds_toArray, List.set_cons_zero, List.set_cons_succ, List.getElem_toArray, List.getElem_cons_zero, List.getElem_cons_succ]
              refine anyR_take (i := 7) (.int .i64 (x : Nat)) rfl (by kernel_rfl) (by kernel_rfl) (by kernel_rfl) (by kernel_rfl) (fun _ _ _ h => h) (by assumption) ⟨by rfl, ?_⟩ ?_
              · intro W hW
                go_simp
              try simp only [Act.put, List.setIfInBounds_toArray, List.set_cons_zero, List.set_cons_succ, List.getElem_toArray, List.getElem_cons_zero, List.getElem_cons_succ]
              refine anyR_take (i := 8) (.pointer (some ⟨bc, oC + x, none⟩)) rfl (by kernel_rfl) (by kernel_rfl) (by kernel_rfl) (by kernel_rfl) (fun _ _ _ h => h) (by assumption) ⟨by rfl, ?_⟩ ?_
              · intro W hW
                go_simp
              try simp only [Act.put, List.setIfInBounds_toArray, List.set_cons_zero, List.set_cons_succ, List.getElem_toArray, List.getElem_cons_zero, List.getElem_cons_succ]
              refine anyR_take (i := 9) (.int .i64 c) rfl (by kernel_rfl) (by kernel_rfl) (by kernel_rfl) (by kernel_rfl) (fun _ _ _ h => h) (by assumption) ⟨by rfl, ?_⟩ ?_
              · intro W hW
                go_simp
              try simp only [Act.put, List.setIfInBounds_toArray, List.set_cons_zero, List.set_cons_succ, List.getElem_toArray, List.getElem_cons_zero, List.getElem_cons_succ]
              refine anyR_take (i := 10) (.int .i64 (lf - c)) rfl (by kernel_rfl) (by kernel_rfl) (by kernel_rfl) (by kernel_rfl) (fun _ _ _ h => h) (by assumption) ⟨by rfl, ?_⟩ ?_
              · intro W hW
                go_simp
              try simp only [Act.put, List.setIfInBounds_toArray, List.set_cons_zero, List.set_cons_succ, List.getElem_toArray, List.getElem_cons_zero, List.getElem_cons_succ]
              refine anyR_one (i := 2) (by kernel_rfl) rfl ?_
              intro K hK
              go_simp
              have b5 := bel_alloc v (.cells #[.int .i64 (x : Int)] 2)
              have B5 := Lib.hid (bel_trans BD.out b5)
              have O5 := Lib.hid (O4v.out.below b5)
              have HCN : (v.alloc (.cells #[.int .i64 (x : Int)] 2)).cell? ⟨v.heap.size, 0, none⟩ = some (.int .i64 (x : Int)) := World.cell?_alloc_at _ _ _ _ rfl
              have s4 : w2.heap.size ≤ (v.alloc (.cells #[.int .i64 (x : Int)] 2)).heap.size := by have := B5.out.size; omega
              have hT := BW.out _ B5.out
              refine hK.out _ _ (fun _ => hT) ?_
              clear b5 hS
              have hS := hT
              clear hT
              clear hK K
              try simp only [Act.put, List.setIfInBounds_toArray, List.set_cons_zero, List.set_cons_succ, List.getElem_toArray, List.getElem_cons_zero, List.getElem_cons_succ]
              refine anyR_one (i := 3) (by kernel_rfl) rfl ?_
              intro K hK
              refine step_app_int _ (by rfl) _ _ (by rfl) w2.heap.size O L oc out (by rfl) O5.out (x : Int) (by omega) (by omega) v.heap.size (by rfl) HCN (by omega) s4 ?_
              intro A6 c6 w6 p1 p2 p3
              have O6 := Lib.hid p1
              have B6 := Lib.hid (B5.out.grown p2 s4 (fun y hy => (O5.out.block y hy).1))
              have hT := BW.out _ B6.out
              refine hK.out _ _ (fun _ => hT) ?_
              clear p1 p2 p3 hS O5 HCN
              have hS := hT
              clear hT
              clear hK K
              try simp only [Act.put, List.setIfInBounds_toArray, List.set_cons_zero, List.set_cons_succ, List.getElem_toArray, List.getElem_cons_zero, List.getElem_cons_succ]
              refine anyR_take (i := 11) (.slice A6 (L + 1) c6) rfl (by kernel_rfl) (by kernel_rfl) (by kernel_rfl) (by kernel_rfl) (fun _ _ _ h => h) (by assumption) ⟨by rfl, ?_⟩ ?_
              · intro W hW
                go_simp
              try simp only [Act.put, List.setIfInBounds_toArray, List.set_cons_zero, List.set_cons_succ, List.getElem_toArray, List.getElem_cons_zero, List.getElem_cons_succ]
              refine anyR_take (i := 12) (.int .i64 (lf - c)) rfl (by kernel_rfl) (by kernel_rfl) (by kernel_rfl) (by kernel_rfl) (fun _ _ _ h => h) (by assumption) ⟨by rfl, ?_⟩ ?_
              · intro W hW
                go_simp
              try simp only [Act.put, List.setIfInBounds_toArray, List.set_cons_zero, List.set_cons_succ, List.getElem_toArray, List.getElem_cons_zero, List.getElem_cons_succ]
              refine anyR_done (by kernel_rfl) ?_ _
              refine NoPanic.normal ?_
              clear hS BW
              go_wp2_with fail
              go_roundw
              case rel => exact ⟨k + 1, L + 1, c6, A6, lf - c, _, by omega, by first | rfl | (push_cast; rfl), rfl, by go_num, by omega, by omega, NX.out, O6.out, B6.out⟩
              case measure => simp [intOf]; omega
            · have d3 := decide_eq_false hle
              go_wp2_with fail
              go_roundw
              case rel => exact ⟨k + 1, L, oc, O, lf, out, by omega, rfl, rfl, by go_num, l0, l60, NS.out, O4.out, HB4.out⟩
              case measure => simp [intOf]; omega
          · have d2 := decide_eq_false (show ¬ (0 : Int) < (Ls : Int) by omega)
            go_wp2_with fail
            go_roundw
            case rel => exact ⟨k + 1, L, oc, O, lf, out, by omega, rfl, rfl, by go_num, l0, l60, NS.out, O4.out, HB4.out⟩
            case measure => simp [intOf]; omega
        · have d1 := decide_eq_false (show ¬ (k : Int) < (m : Int) by omega)
          have R1 := Lib.hid (HSL.out.nodup (List.Nodup.sublist (List.take_sublist _ _) ND.out))
          have RL := Lib.hid (Nat.le_trans HSL.out.length_le (by rw [List.length_take]; omega : (zs.take k).length ≤ m))
          have RM := Lib.hid (fun z (hz : z ∈ out) => SN.out z (List.mem_of_mem_take (HSL.out.mem hz)))
          have B9 := Lib.hid (bel_trans B1.out (bel_trans (B2.out) HB.out))
          have B12 := Lib.hid (bel_trans B1.out B2.out)
          have sz02 := B12.out.size
          have B9 := Lib.hid (bel_trans B12.out HB.out)
          clear B12
          go_wp2_with fail
          exact bodyPost_ret (v := .tuple #[.slice O L oc, .bool true]) (by simp [results, Try.results14, go_sem]) rfl ⟨⟨O, L, oc, out, rfl, HO.out.mono sz02, R1.out, RM.out, RL.out⟩, B9.out⟩
end Go.Proofs.Ytiodbjfchfmlcaa
