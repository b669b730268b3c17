/- Patches: the program's test and the reference's. -/
import Derived.Test.YtcoladhppbknnaaPat
import Derived.Test.YtcoladhppbknnaaPhase
import Derived.Test.YtcoladhppbknnaaSkip
namespace Go.Proofs.Ytcoladhppbknnaa
set_option linter.unusedVariables false
set_option linter.unusedSimpArgs false
set_option maxRecDepth 100000
open Go.RowKit Go.Deep
theorem patB_no {es : List Ed} {k : Nat} (hk : k < es.length) (h : patK es k = false) : patB es = false := by
  unfold patB
  rw [rng_no (p := patK es) hk h, Bool.false_and]
theorem patB_end {es : List Ed} (h : (List.range es.length).all (patK es) = true) : patB es = decide (es.length ≤ 16) := by
  unfold patB
  rw [h, Bool.true_and]
theorem patK_at {es : List Ed} {k : Nat} {e : Ed} (h : es[k]? = some e) : patK es k = (inR e.id 1 99 && edB e && (decide (k = 0) || decide ((es.getD (k - 1) dEd).id < e.id))) := by
  unfold patK
  rw [List.getD_eq_getElem?_getD, h]
  rfl
theorem getD_ed {es : List Ed} {k : Nat} {e : Ed} (h : es[k]? = some e) : es.getD k dEd = e := by rw [List.getD_eq_getElem?_getD, h]; rfl
theorem ValidPatch_any (A : Option Addr) (n c : Nat) (es : List Ed) (w : World) (h : Eds w A n c es) : Calls Try.prog 74 #[.slice A n c] w fun x w' => x = .returned (.bool (patB es)) ∧ Below w.heap.size w w' := by
  have hn := h.short
  obtain rfl : es.length = n := h.len
  have H := Lib.hid h
  clear h
  go_enter Try.func74, Try.ntmps74
  go_wp2_with fail
  go_loopw [7] (fun i wr => ∃ k : Nat, k ≤ es.length ∧ i = .int .i64 k ∧ (List.range k).all (patK es) = true ∧ Below w.heap.size w wr) (fun i _ => es.length - (intOf i).toNat)
  case atStart => exact ⟨0, Nat.zero_le _, rfl, rfl, Below.refl _ _⟩
  case round =>
    obtain ⟨k, hk, rfl, hall, hbel⟩ := hrel
    have HA := Lib.hid hall
    have HB := Lib.hid hbel
    clear hall hbel
    by_cases hlt : k < es.length
    · have d0 := decide_eq_true (show (k : Int) < (es.length : Int) by omega)
      obtain ⟨b, off, e, rfl, hb, he, ok, y0, y1, y2, y3⟩ := (H.out.below HB.out).at hlt
      have PK := Lib.hid (patK_at he.out)
      have CE := Lib.hid (Cs.new wr [.int .i64 e.kind, .int .i64 e.id, .string e.old, .string e.new] 74)
      have BA := Lib.hid (bel_trans HB.out (bel_alloc wr (.cells #[.int .i64 e.kind, .int .i64 e.id, .string e.old, .string e.new] 74)))
      go_wp2_with fail
      obtain ⟨wb, hwb⟩ : ∃ x, wr.alloc (.cells #[.int .i64 e.kind, .int .i64 e.id, .string e.old, .string e.new] 74) = x := ⟨_, rfl⟩
      rw [hwb] at CE BA
      rw [hwb]
      clear hwb y0 y1 y2 y3
      obtain ⟨g, hg⟩ : ∃ x, wr.heap.size = x := ⟨_, rfl⟩
      rw [hg] at CE
      rw [hg]
      clear hg
      cases hq : inR e.id 1 99 && edB e
      · have HQ := Lib.hid hq
        have NO := Lib.hid (patB_no hlt (by rw [PK.out, hq]; rfl))
        clear hq
        refine wp_region_noPanic ?_
        refine wp_region_R (inFirst (fun W => Below wb.heap.size wb W ∧ W.cell? ⟨g, 0, none⟩ = some (.int .i64 e.kind) ∧ W.cell? ⟨g, 1, none⟩ = some (.int .i64 e.id) ∧ W.cell? ⟨g, 2, none⟩ = some (.string e.old) ∧ W.cell? ⟨g, 3, none⟩ = some (.string e.new)) 18) (by kernel_rfl) ?_
        have SS := Lib.hid (fun (W : World) (hW : Below wb.heap.size wb W) => (show Below wb.heap.size wb W ∧ W.cell? ⟨g, 0, none⟩ = some (.int .i64 e.kind) ∧ W.cell? ⟨g, 1, none⟩ = some (.int .i64 e.id) ∧ W.cell? ⟨g, 2, none⟩ = some (.string e.old) ∧ W.cell? ⟨g, 3, none⟩ = some (.string e.new) from ⟨hW, (CE.out.below hW).cell 0 rfl, (CE.out.below hW).cell 1 rfl, (CE.out.below hW).cell 2 rfl, (CE.out.below hW).cell 3 rfl⟩))
        have hS := SS.out wb.drew ⟨rfl, rfl, rfl, Nat.le_refl _, fun _ _ => rfl⟩
        refine anyR_take (i := 0) (.agg #[.int .i64 e.kind, .int .i64 e.id, .string e.old, .string e.new]) rfl (by kernel_rfl) (by kernel_rfl) (by kernel_rfl) (by kernel_rfl) (fun _ _ _ h => h) (by assumption) ⟨by rfl, ?_⟩ ?_
        · intro W hW
          go_simp
        try simp only [Act.put, List.setIfInBounds_toArray, List.set_cons_zero, List.set_cons_succ, List.getElem_toArray, List.getElem_cons_zero, List.getElem_cons_succ]
        refine anyR_one (i := 1) (by kernel_rfl) rfl ?_
        intro K hK
        go_simp
        go_at_call 109
        refine (isEdit_any e ok _).mono ?_
        rintro x w9 ⟨rfl, u9⟩
        rw [HQ.out]
        have hT := SS.out _ (bel_trans hS.1 u9)
        refine hK.out _ _ (fun _ => hT) ?_
        clear hS u9
        have hS := hT
        clear hT
        clear hK K
        try simp only [Act.put, List.setIfInBounds_toArray, List.set_cons_zero, List.set_cons_succ, List.getElem_toArray, List.getElem_cons_zero, List.getElem_cons_succ]
        refine anyR_take (i := 2) (.bool true) rfl (by kernel_rfl) (by kernel_rfl) (by kernel_rfl) (by kernel_rfl) (fun _ _ _ h => h) (by assumption) ⟨by rfl, ?_⟩ ?_
        · intro W hW
          go_simp
        try simp only [Act.put, List.setIfInBounds_toArray, List.set_cons_zero, List.set_cons_succ, List.getElem_toArray, List.getElem_cons_zero, List.getElem_cons_succ]
        refine anyR_take (i := 3) (.bool true) rfl (by kernel_rfl) (by kernel_rfl) (by kernel_rfl) (by kernel_rfl) (fun _ _ _ h => h) (by assumption) ⟨by rfl, ?_⟩ ?_
        · intro W hW
          go_simp
        try simp only [Act.put, List.setIfInBounds_toArray, List.set_cons_zero, List.set_cons_succ, List.getElem_toArray, List.getElem_cons_zero, List.getElem_cons_succ]
        refine anyR_skip (i := 4) rfl (by kernel_rfl) (by kernel_rfl) (by kernel_rfl) (by kernel_rfl) (fun _ _ _ h => h) (by assumption) (by rfl) ?_
        try simp only [Act.put, List.setIfInBounds_toArray, List.set_cons_zero, List.set_cons_succ, List.getElem_toArray, List.getElem_cons_zero, List.getElem_cons_succ]
        refine anyR_skip (i := 5) rfl (by kernel_rfl) (by kernel_rfl) (by kernel_rfl) (by kernel_rfl) (fun _ _ _ h => h) (by assumption) (by rfl) ?_
        try simp only [Act.put, List.setIfInBounds_toArray, List.set_cons_zero, List.set_cons_succ, List.getElem_toArray, List.getElem_cons_zero, List.getElem_cons_succ]
        refine anyR_skip (i := 6) rfl (by kernel_rfl) (by kernel_rfl) (by kernel_rfl) (by kernel_rfl) (fun _ _ _ h => h) (by assumption) (by rfl) ?_
        try simp only [Act.put, List.setIfInBounds_toArray, List.set_cons_zero, List.set_cons_succ, List.getElem_toArray, List.getElem_cons_zero, List.getElem_cons_succ]
        refine anyR_skip (i := 7) rfl (by kernel_rfl) (by kernel_rfl) (by kernel_rfl) (by kernel_rfl) (fun _ _ _ h => h) (by assumption) (by rfl) ?_
        try simp only [Act.put, List.setIfInBounds_toArray, List.set_cons_zero, List.set_cons_succ, List.getElem_toArray, List.getElem_cons_zero, List.getElem_cons_succ]
        refine anyR_skip (i := 8) rfl (by kernel_rfl) (by kernel_rfl) (by kernel_rfl) (by kernel_rfl) (fun _ _ _ h => h) (by assumption) (by rfl) ?_
        try simp only [Act.put, List.setIfInBounds_toArray, List.set_cons_zero, List.set_cons_succ, List.getElem_toArray, List.getElem_cons_zero, List.getElem_cons_succ]
        refine anyR_skip (i := 9) rfl (by kernel_rfl) (by kernel_rfl) (by kernel_rfl) (by kernel_rfl) (fun _ _ _ h => h) (by assumption) (by rfl) ?_
        try simp only [Act.put, List.setIfInBounds_toArray, List.set_cons_zero, List.set_cons_succ, List.getElem_toArray, List.getElem_cons_zero, List.getElem_cons_succ]
        refine anyR_skip (i := 10) rfl (by kernel_rfl) (by kernel_rfl) (by kernel_rfl) (by kernel_rfl) (fun _ _ _ h => h) (by assumption) (by rfl) ?_
        try simp only [Act.put, List.setIfInBounds_toArray, List.set_cons_zero, List.set_cons_succ, List.getElem_toArray, List.getElem_cons_zero, List.getElem_cons_succ]
        refine anyR_skip (i := 11) rfl (by kernel_rfl) (by kernel_rfl) (by kernel_rfl) (by kernel_rfl) (fun _ _ _ h => h) (by assumption) (by rfl) ?_
        try simp only [Act.put, List.setIfInBounds_toArray, List.set_cons_zero, List.set_cons_succ, List.getElem_toArray, List.getElem_cons_zero, List.getElem_cons_succ]
        refine anyR_skip (i := 12) rfl (by kernel_rfl) (by kernel_rfl) (by kernel_rfl) (by kernel_rfl) (fun _ _ _ h => h) (by assumption) (by rfl) ?_
        try simp only [Act.put, List.setIfInBounds_toArray, List.set_cons_zero, List.set_cons_succ, List.getElem_toArray, List.getElem_cons_zero, List.getElem_cons_succ]
        refine anyR_skip (i := 13) rfl (by kernel_rfl) (by kernel_rfl) (by kernel_rfl) (by kernel_rfl) (fun _ _ _ h => h) (by assumption) (by rfl) ?_
        try simp only [Act.put, List.setIfInBounds_toArray, List.set_cons_zero, List.set_cons_succ, List.getElem_toArray, List.getElem_cons_zero, List.getElem_cons_succ]
        refine anyR_skip (i := 14) rfl (by kernel_rfl) (by kernel_rfl) (by kernel_rfl) (by kernel_rfl) (fun _ _ _ h => h) (by assumption) (by rfl) ?_
        try simp only [Act.put, List.setIfInBounds_toArray, List.set_cons_zero, List.set_cons_succ, List.getElem_toArray, List.getElem_cons_zero, List.getElem_cons_succ]
        refine anyR_skip (i := 15) rfl (by kernel_rfl) (by kernel_rfl) (by kernel_rfl) (by kernel_rfl) (fun _ _ _ h => h) (by assumption) (by rfl) ?_
        try simp only [Act.put, List.setIfInBounds_toArray, List.set_cons_zero, List.set_cons_succ, List.getElem_toArray, List.getElem_cons_zero, List.getElem_cons_succ]
        refine anyR_skip (i := 16) rfl (by kernel_rfl) (by kernel_rfl) (by kernel_rfl) (by kernel_rfl) (fun _ _ _ h => h) (by assumption) (by rfl) ?_
        try simp only [Act.put, List.setIfInBounds_toArray, List.set_cons_zero, List.set_cons_succ, List.getElem_toArray, List.getElem_cons_zero, List.getElem_cons_succ]
        refine anyR_take (i := 17) (.bool true) rfl (by kernel_rfl) (by kernel_rfl) (by kernel_rfl) (by kernel_rfl) (fun _ _ _ h => h) (by assumption) ⟨by rfl, ?_⟩ ?_
        · intro W hW
          go_simp
        try simp only [Act.put, List.setIfInBounds_toArray, List.set_cons_zero, List.set_cons_succ, List.getElem_toArray, List.getElem_cons_zero, List.getElem_cons_succ]
        refine anyR_done (by kernel_rfl) ?_ _
        refine NoPanic.normal ?_
        have BU := Lib.hid hS.1
        clear hS SS
        go_wp2_with fail
        go_ret
        exact ⟨by rw [NO.out]; rfl, bel_trans BA.out BU.out⟩
      · have HQ := Lib.hid hq
        have PQ := Lib.hid (PK.out.trans (by rw [hq, Bool.true_and] : _ = (decide (k = 0) || decide ((es.getD (k - 1) dEd).id < e.id))))
        clear hq
        cases k with
        | zero =>
          have YES := Lib.hid (rng_next HA.out (PQ.out.trans rfl))
          refine wp_region_noPanic ?_
          refine wp_region_R (inFirst (fun W => Below wb.heap.size wb W ∧ W.cell? ⟨g, 0, none⟩ = some (.int .i64 e.kind) ∧ W.cell? ⟨g, 1, none⟩ = some (.int .i64 e.id) ∧ W.cell? ⟨g, 2, none⟩ = some (.string e.old) ∧ W.cell? ⟨g, 3, none⟩ = some (.string e.new)) 18) (by kernel_rfl) ?_
          have SS := Lib.hid (fun (W : World) (hW : Below wb.heap.size wb W) => (show Below wb.heap.size wb W ∧ W.cell? ⟨g, 0, none⟩ = some (.int .i64 e.kind) ∧ W.cell? ⟨g, 1, none⟩ = some (.int .i64 e.id) ∧ W.cell? ⟨g, 2, none⟩ = some (.string e.old) ∧ W.cell? ⟨g, 3, none⟩ = some (.string e.new) from ⟨hW, (CE.out.below hW).cell 0 rfl, (CE.out.below hW).cell 1 rfl, (CE.out.below hW).cell 2 rfl, (CE.out.below hW).cell 3 rfl⟩))
          have hS := SS.out wb.drew ⟨rfl, rfl, rfl, Nat.le_refl _, fun _ _ => rfl⟩
          refine anyR_take (i := 0) (.agg #[.int .i64 e.kind, .int .i64 e.id, .string e.old, .string e.new]) rfl (by kernel_rfl) (by kernel_rfl) (by kernel_rfl) (by kernel_rfl) (fun _ _ _ h => h) (by assumption) ⟨by rfl, ?_⟩ ?_
          · intro W hW
            go_simp
          try simp only [Act.put, List.setIfInBounds_toArray, List.set_cons_zero, List.set_cons_succ, List.getElem_toArray, List.getElem_cons_zero, List.getElem_cons_succ]
          refine anyR_one (i := 1) (by kernel_rfl) rfl ?_
          intro K hK
          go_simp
          go_at_call 109
          refine (isEdit_any e ok _).mono ?_
          rintro x w9 ⟨rfl, u9⟩
          rw [HQ.out]
          have hT := SS.out _ (bel_trans hS.1 u9)
          refine hK.out _ _ (fun _ => hT) ?_
          clear hS u9
          have hS := hT
          clear hT
          clear hK K
          try simp only [Act.put, List.setIfInBounds_toArray, List.set_cons_zero, List.set_cons_succ, List.getElem_toArray, List.getElem_cons_zero, List.getElem_cons_succ]
          refine anyR_take (i := 2) (.bool false) rfl (by kernel_rfl) (by kernel_rfl) (by kernel_rfl) (by kernel_rfl) (fun _ _ _ h => h) (by assumption) ⟨by rfl, ?_⟩ ?_
          · intro W hW
            go_simp
          try simp only [Act.put, List.setIfInBounds_toArray, List.set_cons_zero, List.set_cons_succ, List.getElem_toArray, List.getElem_cons_zero, List.getElem_cons_succ]
          refine anyR_take (i := 3) (.bool false) rfl (by kernel_rfl) (by kernel_rfl) (by kernel_rfl) (by kernel_rfl) (fun _ _ _ h => h) (by assumption) ⟨by rfl, ?_⟩ ?_
          · intro W hW
            go_simp
          try simp only [Act.put, List.setIfInBounds_toArray, List.set_cons_zero, List.set_cons_succ, List.getElem_toArray, List.getElem_cons_zero, List.getElem_cons_succ]
          refine anyR_take (i := 4) (.int .i64 (0 : Nat)) rfl (by kernel_rfl) (by kernel_rfl) (by kernel_rfl) (by kernel_rfl) (fun _ _ _ h => h) (by assumption) ⟨by rfl, ?_⟩ ?_
          · intro W hW
            go_simp
          try simp only [Act.put, List.setIfInBounds_toArray, List.set_cons_zero, List.set_cons_succ, List.getElem_toArray, List.getElem_cons_zero, List.getElem_cons_succ]
          refine anyR_take (i := 5) (.bool false) rfl (by kernel_rfl) (by kernel_rfl) (by kernel_rfl) (by kernel_rfl) (fun _ _ _ h => h) (by assumption) ⟨by rfl, ?_⟩ ?_
          · intro W hW
            go_simp
          try simp only [Act.put, List.setIfInBounds_toArray, List.set_cons_zero, List.set_cons_succ, List.getElem_toArray, List.getElem_cons_zero, List.getElem_cons_succ]
          refine anyR_take (i := 6) (.bool false) rfl (by kernel_rfl) (by kernel_rfl) (by kernel_rfl) (by kernel_rfl) (fun _ _ _ h => h) (by assumption) ⟨by rfl, ?_⟩ ?_
          · intro W hW
            go_simp
          try simp only [Act.put, List.setIfInBounds_toArray, List.set_cons_zero, List.set_cons_succ, List.getElem_toArray, List.getElem_cons_zero, List.getElem_cons_succ]
          refine anyR_skip (i := 7) rfl (by kernel_rfl) (by kernel_rfl) (by kernel_rfl) (by kernel_rfl) (fun _ _ _ h => h) (by assumption) (by rfl) ?_
          try simp only [Act.put, List.setIfInBounds_toArray, List.set_cons_zero, List.set_cons_succ, List.getElem_toArray, List.getElem_cons_zero, List.getElem_cons_succ]
          refine anyR_skip (i := 8) rfl (by kernel_rfl) (by kernel_rfl) (by kernel_rfl) (by kernel_rfl) (fun _ _ _ h => h) (by assumption) (by rfl) ?_
          try simp only [Act.put, List.setIfInBounds_toArray, List.set_cons_zero, List.set_cons_succ, List.getElem_toArray, List.getElem_cons_zero, List.getElem_cons_succ]
          refine anyR_skip (i := 9) rfl (by kernel_rfl) (by kernel_rfl) (by kernel_rfl) (by kernel_rfl) (fun _ _ _ h => h) (by assumption) (by rfl) ?_
          try simp only [Act.put, List.setIfInBounds_toArray, List.set_cons_zero, List.set_cons_succ, List.getElem_toArray, List.getElem_cons_zero, List.getElem_cons_succ]
          refine anyR_skip (i := 10) rfl (by kernel_rfl) (by kernel_rfl) (by kernel_rfl) (by kernel_rfl) (fun _ _ _ h => h) (by assumption) (by rfl) ?_
          try simp only [Act.put, List.setIfInBounds_toArray, List.set_cons_zero, List.set_cons_succ, List.getElem_toArray, List.getElem_cons_zero, List.getElem_cons_succ]
          refine anyR_skip (i := 11) rfl (by kernel_rfl) (by kernel_rfl) (by kernel_rfl) (by kernel_rfl) (fun _ _ _ h => h) (by assumption) (by rfl) ?_
          try simp only [Act.put, List.setIfInBounds_toArray, List.set_cons_zero, List.set_cons_succ, List.getElem_toArray, List.getElem_cons_zero, List.getElem_cons_succ]
          refine anyR_skip (i := 12) rfl (by kernel_rfl) (by kernel_rfl) (by kernel_rfl) (by kernel_rfl) (fun _ _ _ h => h) (by assumption) (by rfl) ?_
          try simp only [Act.put, List.setIfInBounds_toArray, List.set_cons_zero, List.set_cons_succ, List.getElem_toArray, List.getElem_cons_zero, List.getElem_cons_succ]
          refine anyR_skip (i := 13) rfl (by kernel_rfl) (by kernel_rfl) (by kernel_rfl) (by kernel_rfl) (fun _ _ _ h => h) (by assumption) (by rfl) ?_
          try simp only [Act.put, List.setIfInBounds_toArray, List.set_cons_zero, List.set_cons_succ, List.getElem_toArray, List.getElem_cons_zero, List.getElem_cons_succ]
          refine anyR_skip (i := 14) rfl (by kernel_rfl) (by kernel_rfl) (by kernel_rfl) (by kernel_rfl) (fun _ _ _ h => h) (by assumption) (by rfl) ?_
          try simp only [Act.put, List.setIfInBounds_toArray, List.set_cons_zero, List.set_cons_succ, List.getElem_toArray, List.getElem_cons_zero, List.getElem_cons_succ]
          refine anyR_skip (i := 15) rfl (by kernel_rfl) (by kernel_rfl) (by kernel_rfl) (by kernel_rfl) (fun _ _ _ h => h) (by assumption) (by rfl) ?_
          try simp only [Act.put, List.setIfInBounds_toArray, List.set_cons_zero, List.set_cons_succ, List.getElem_toArray, List.getElem_cons_zero, List.getElem_cons_succ]
          refine anyR_take (i := 16) (.bool false) rfl (by kernel_rfl) (by kernel_rfl) (by kernel_rfl) (by kernel_rfl) (fun _ _ _ h => h) (by assumption) ⟨by rfl, ?_⟩ ?_
          · intro W hW
            go_simp
          try simp only [Act.put, List.setIfInBounds_toArray, List.set_cons_zero, List.set_cons_succ, List.getElem_toArray, List.getElem_cons_zero, List.getElem_cons_succ]
          refine anyR_take (i := 17) (.bool false) rfl (by kernel_rfl) (by kernel_rfl) (by kernel_rfl) (by kernel_rfl) (fun _ _ _ h => h) (by assumption) ⟨by rfl, ?_⟩ ?_
          · intro W hW
            go_simp
          try simp only [Act.put, List.setIfInBounds_toArray, List.set_cons_zero, List.set_cons_succ, List.getElem_toArray, List.getElem_cons_zero, List.getElem_cons_succ]
          refine anyR_done (by kernel_rfl) ?_ _
          refine NoPanic.normal ?_
          have BU := Lib.hid hS.1
          clear hS SS
          go_wp2_with fail
          refine ⟨⟨1, by omega, by go_num, YES.out, bel_trans BA.out BU.out⟩, ?_⟩
          simp [intOf]
          omega
        | succ j =>
          obtain ⟨b', off', e', hA, hb', he', ok', _, yq, _, _⟩ := (H.out.below BA.out).at (j := j) (by omega)
          simp only [Option.some.injEq, Addr.mk.injEq, and_true] at hA
          obtain ⟨rfl, rfl⟩ := hA
          have GJ := getD_ed he'.out
          obtain ⟨pid, hpid⟩ : ∃ x, e'.id = x := ⟨_, rfl⟩
          rw [hpid] at yq
          have PQ2 := Lib.hid (PQ.out.trans (show _ = decide (pid < e.id) by rw [Nat.add_sub_cancel, GJ, hpid]; simp))
          clear PQ PK he' GJ hpid
          have lb := hb'
          have lj : j < es.length := by omega
          have wj : IntKind.i64.wrap (j : Int) = j := IntWalk.i64_in _ (by omega)
          by_cases hp : pid < e.id
          · have dp := decide_eq_false (show ¬ e.id ≤ pid by omega)
            have YES := Lib.hid (rng_next HA.out (PQ2.out.trans (decide_eq_true hp)))
            clear hp
            have yp := yq
            refine wp_region_noPanic ?_
            refine wp_region_R (inFirst (fun W => Below wb.heap.size wb W ∧ W.cell? ⟨g, 0, none⟩ = some (.int .i64 e.kind) ∧ W.cell? ⟨g, 1, none⟩ = some (.int .i64 e.id) ∧ W.cell? ⟨g, 2, none⟩ = some (.string e.old) ∧ W.cell? ⟨g, 3, none⟩ = some (.string e.new) ∧ W.cell? ⟨b, off + j * 4 + 1, none⟩ = some (.int .i64 pid)) 18) (by kernel_rfl) ?_
            have SS := Lib.hid (fun (W : World) (hW : Below wb.heap.size wb W) => (show Below wb.heap.size wb W ∧ W.cell? ⟨g, 0, none⟩ = some (.int .i64 e.kind) ∧ W.cell? ⟨g, 1, none⟩ = some (.int .i64 e.id) ∧ W.cell? ⟨g, 2, none⟩ = some (.string e.old) ∧ W.cell? ⟨g, 3, none⟩ = some (.string e.new) ∧ W.cell? ⟨b, off + j * 4 + 1, none⟩ = some (.int .i64 pid) from ⟨hW, (CE.out.below hW).cell 0 rfl, (CE.out.below hW).cell 1 rfl, (CE.out.below hW).cell 2 rfl, (CE.out.below hW).cell 3 rfl, (hW.cell (p := ⟨b, off + j * 4 + 1, none⟩) lb).trans yp⟩))
            have hS := SS.out wb.drew ⟨rfl, rfl, rfl, Nat.le_refl _, fun _ _ => rfl⟩
            refine anyR_take (i := 0) (.agg #[.int .i64 e.kind, .int .i64 e.id, .string e.old, .string e.new]) rfl (by kernel_rfl) (by kernel_rfl) (by kernel_rfl) (by kernel_rfl) (fun _ _ _ h => h) (by assumption) ⟨by rfl, ?_⟩ ?_
            · intro W hW
              go_simp
            try simp only [Act.put, List.setIfInBounds_toArray, List.set_cons_zero, List.set_cons_succ, List.getElem_toArray, List.getElem_cons_zero, List.getElem_cons_succ]
            refine anyR_one (i := 1) (by kernel_rfl) rfl ?_
            intro K hK
            go_simp
            go_at_call 109
            refine (isEdit_any e ok _).mono ?_
            rintro x w9 ⟨rfl, u9⟩
            rw [HQ.out]
            have hT := SS.out _ (bel_trans hS.1 u9)
            refine hK.out _ _ (fun _ => hT) ?_
            clear hS u9
            have hS := hT
            clear hT
            clear hK K
            try simp only [Act.put, List.setIfInBounds_toArray, List.set_cons_zero, List.set_cons_succ, List.getElem_toArray, List.getElem_cons_zero, List.getElem_cons_succ]
            refine anyR_take (i := 2) (.bool false) rfl (by kernel_rfl) (by kernel_rfl) (by kernel_rfl) (by kernel_rfl) (fun _ _ _ h => h) (by assumption) ⟨by rfl, ?_⟩ ?_
            · intro W hW
              go_simp
            try simp only [Act.put, List.setIfInBounds_toArray, List.set_cons_zero, List.set_cons_succ, List.getElem_toArray, List.getElem_cons_zero, List.getElem_cons_succ]
            refine anyR_take (i := 3) (.bool false) rfl (by kernel_rfl) (by kernel_rfl) (by kernel_rfl) (by kernel_rfl) (fun _ _ _ h => h) (by assumption) ⟨by rfl, ?_⟩ ?_
            · intro W hW
              go_simp
            try simp only [Act.put, List.setIfInBounds_toArray, List.set_cons_zero, List.set_cons_succ, List.getElem_toArray, List.getElem_cons_zero, List.getElem_cons_succ]
            refine anyR_take (i := 4) (.int .i64 (j + 1 : Nat)) rfl (by kernel_rfl) (by kernel_rfl) (by kernel_rfl) (by kernel_rfl) (fun _ _ _ h => h) (by assumption) ⟨by rfl, ?_⟩ ?_
            · intro W hW
              go_simp
            try simp only [Act.put, List.setIfInBounds_toArray, List.set_cons_zero, List.set_cons_succ, List.getElem_toArray, List.getElem_cons_zero, List.getElem_cons_succ]
            refine anyR_take (i := 5) (.bool true) rfl (by kernel_rfl) (by kernel_rfl) (by kernel_rfl) (by kernel_rfl) (fun _ _ _ h => h) (by assumption) ⟨by rfl, ?_⟩ ?_
            · intro W hW
              go_simp
            try simp only [Act.put, List.setIfInBounds_toArray, List.set_cons_zero, List.set_cons_succ, List.getElem_toArray, List.getElem_cons_zero, List.getElem_cons_succ]
            refine anyR_take (i := 6) (.bool true) rfl (by kernel_rfl) (by kernel_rfl) (by kernel_rfl) (by kernel_rfl) (fun _ _ _ h => h) (by assumption) ⟨by rfl, ?_⟩ ?_
            · intro W hW
              go_simp
            try simp only [Act.put, List.setIfInBounds_toArray, List.set_cons_zero, List.set_cons_succ, List.getElem_toArray, List.getElem_cons_zero, List.getElem_cons_succ]
            refine anyR_take (i := 7) (.slice (some ⟨b, off, none⟩) es.length c) rfl (by kernel_rfl) (by kernel_rfl) (by kernel_rfl) (by kernel_rfl) (fun _ _ _ h => h) (by assumption) ⟨by rfl, ?_⟩ ?_
            · intro W hW
              go_simp
            try simp only [Act.put, List.setIfInBounds_toArray, List.set_cons_zero, List.set_cons_succ, List.getElem_toArray, List.getElem_cons_zero, List.getElem_cons_succ]
            refine anyR_take (i := 8) (.int .i64 (j + 1 : Nat)) rfl (by kernel_rfl) (by kernel_rfl) (by kernel_rfl) (by kernel_rfl) (fun _ _ _ h => h) (by assumption) ⟨by rfl, ?_⟩ ?_
            · intro W hW
              go_simp
            try simp only [Act.put, List.setIfInBounds_toArray, List.set_cons_zero, List.set_cons_succ, List.getElem_toArray, List.getElem_cons_zero, List.getElem_cons_succ]
            refine anyR_take (i := 9) (.int .i64 j) rfl (by kernel_rfl) (by kernel_rfl) (by kernel_rfl) (by kernel_rfl) (fun _ _ _ h => h) (by assumption) ⟨by rfl, ?_⟩ ?_
            · intro W hW
              go_simp
            try simp only [Act.put, List.setIfInBounds_toArray, List.set_cons_zero, List.set_cons_succ, List.getElem_toArray, List.getElem_cons_zero, List.getElem_cons_succ]
            refine anyR_take (i := 10) (.pointer (some ⟨b, off + j * 4, none⟩)) rfl (by kernel_rfl) (by kernel_rfl) (by kernel_rfl) (by kernel_rfl) (fun _ _ _ h => h) (by assumption) ⟨by rfl, ?_⟩ ?_
            · intro W hW
              go_simp
            try simp only [Act.put, List.setIfInBounds_toArray, List.set_cons_zero, List.set_cons_succ, List.getElem_toArray, List.getElem_cons_zero, List.getElem_cons_succ]
            refine anyR_take (i := 11) (.pointer (some ⟨b, off + j * 4 + 1, none⟩)) rfl (by kernel_rfl) (by kernel_rfl) (by kernel_rfl) (by kernel_rfl) (fun _ _ _ h => h) (by assumption) ⟨by rfl, ?_⟩ ?_
            · intro W hW
              go_simp
            try simp only [Act.put, List.setIfInBounds_toArray, List.set_cons_zero, List.set_cons_succ, List.getElem_toArray, List.getElem_cons_zero, List.getElem_cons_succ]
            refine anyR_take (i := 12) (.int .i64 pid) rfl (by kernel_rfl) (by kernel_rfl) (by kernel_rfl) (by kernel_rfl) (fun _ _ _ h => h) (by assumption) ⟨by rfl, ?_⟩ ?_
            · intro W hW
              go_simp
            try simp only [Act.put, List.setIfInBounds_toArray, List.set_cons_zero, List.set_cons_succ, List.getElem_toArray, List.getElem_cons_zero, List.getElem_cons_succ]
            refine anyR_take (i := 13) (.pointer (some ⟨g, 1, none⟩)) rfl (by kernel_rfl) (by kernel_rfl) (by kernel_rfl) (by kernel_rfl) (fun _ _ _ h => h) (by assumption) ⟨by rfl, ?_⟩ ?_
            · intro W hW
              go_simp
            try simp only [Act.put, List.setIfInBounds_toArray, List.set_cons_zero, List.set_cons_succ, List.getElem_toArray, List.getElem_cons_zero, List.getElem_cons_succ]
            refine anyR_take (i := 14) (.int .i64 e.id) rfl (by kernel_rfl) (by kernel_rfl) (by kernel_rfl) (by kernel_rfl) (fun _ _ _ h => h) (by assumption) ⟨by rfl, ?_⟩ ?_
            · intro W hW
              go_simp
            try simp only [Act.put, List.setIfInBounds_toArray, List.set_cons_zero, List.set_cons_succ, List.getElem_toArray, List.getElem_cons_zero, List.getElem_cons_succ]
            refine anyR_take (i := 15) (.bool false) rfl (by kernel_rfl) (by kernel_rfl) (by kernel_rfl) (by kernel_rfl) (fun _ _ _ h => h) (by assumption) ⟨by rfl, ?_⟩ ?_
            · intro W hW
              go_simp
            try simp only [Act.put, List.setIfInBounds_toArray, List.set_cons_zero, List.set_cons_succ, List.getElem_toArray, List.getElem_cons_zero, List.getElem_cons_succ]
            refine anyR_take (i := 16) (.bool false) rfl (by kernel_rfl) (by kernel_rfl) (by kernel_rfl) (by kernel_rfl) (fun _ _ _ h => h) (by assumption) ⟨by rfl, ?_⟩ ?_
            · intro W hW
              go_simp
            try simp only [Act.put, List.setIfInBounds_toArray, List.set_cons_zero, List.set_cons_succ, List.getElem_toArray, List.getElem_cons_zero, List.getElem_cons_succ]
            refine anyR_take (i := 17) (.bool false) rfl (by kernel_rfl) (by kernel_rfl) (by kernel_rfl) (by kernel_rfl) (fun _ _ _ h => h) (by assumption) ⟨by rfl, ?_⟩ ?_
            · intro W hW
              go_simp
            try simp only [Act.put, List.setIfInBounds_toArray, List.set_cons_zero, List.set_cons_succ, List.getElem_toArray, List.getElem_cons_zero, List.getElem_cons_succ]
            refine anyR_done (by kernel_rfl) ?_ _
            refine NoPanic.normal ?_
            have BU := Lib.hid hS.1
            clear hS SS
            go_wp2_with fail
            refine ⟨⟨j + 2, by omega, by go_num, YES.out, bel_trans BA.out BU.out⟩, ?_⟩
            simp [intOf]
            omega
          · have dp := decide_eq_true (show e.id ≤ pid by omega)
            have NO := Lib.hid (patB_no hlt (PQ2.out.trans (decide_eq_false hp)))
            clear hp
            have yp := yq
            refine wp_region_noPanic ?_
            refine wp_region_R (inFirst (fun W => Below wb.heap.size wb W ∧ W.cell? ⟨g, 0, none⟩ = some (.int .i64 e.kind) ∧ W.cell? ⟨g, 1, none⟩ = some (.int .i64 e.id) ∧ W.cell? ⟨g, 2, none⟩ = some (.string e.old) ∧ W.cell? ⟨g, 3, none⟩ = some (.string e.new) ∧ W.cell? ⟨b, off + j * 4 + 1, none⟩ = some (.int .i64 pid)) 18) (by kernel_rfl) ?_
            have SS := Lib.hid (fun (W : World) (hW : Below wb.heap.size wb W) => (show Below wb.heap.size wb W ∧ W.cell? ⟨g, 0, none⟩ = some (.int .i64 e.kind) ∧ W.cell? ⟨g, 1, none⟩ = some (.int .i64 e.id) ∧ W.cell? ⟨g, 2, none⟩ = some (.string e.old) ∧ W.cell? ⟨g, 3, none⟩ = some (.string e.new) ∧ W.cell? ⟨b, off + j * 4 + 1, none⟩ = some (.int .i64 pid) from ⟨hW, (CE.out.below hW).cell 0 rfl, (CE.out.below hW).cell 1 rfl, (CE.out.below hW).cell 2 rfl, (CE.out.below hW).cell 3 rfl, (hW.cell (p := ⟨b, off + j * 4 + 1, none⟩) lb).trans yp⟩))
            have hS := SS.out wb.drew ⟨rfl, rfl, rfl, Nat.le_refl _, fun _ _ => rfl⟩
            refine anyR_take (i := 0) (.agg #[.int .i64 e.kind, .int .i64 e.id, .string e.old, .string e.new]) rfl (by kernel_rfl) (by kernel_rfl) (by kernel_rfl) (by kernel_rfl) (fun _ _ _ h => h) (by assumption) ⟨by rfl, ?_⟩ ?_
            · intro W hW
              go_simp
            try simp only [Act.put, List.setIfInBounds_toArray, List.set_cons_zero, List.set_cons_succ, List.getElem_toArray, List.getElem_cons_zero, List.getElem_cons_succ]
            refine anyR_one (i := 1) (by kernel_rfl) rfl ?_
            intro K hK
            go_simp
            go_at_call 109
            refine (isEdit_any e ok _).mono ?_
            rintro x w9 ⟨rfl, u9⟩
            rw [HQ.out]
            have hT := SS.out _ (bel_trans hS.1 u9)
            refine hK.out _ _ (fun _ => hT) ?_
            clear hS u9
            have hS := hT
            clear hT
            clear hK K
            try simp only [Act.put, List.setIfInBounds_toArray, List.set_cons_zero, List.set_cons_succ, List.getElem_toArray, List.getElem_cons_zero, List.getElem_cons_succ]
            refine anyR_take (i := 2) (.bool false) rfl (by kernel_rfl) (by kernel_rfl) (by kernel_rfl) (by kernel_rfl) (fun _ _ _ h => h) (by assumption) ⟨by rfl, ?_⟩ ?_
            · intro W hW
              go_simp
            try simp only [Act.put, List.setIfInBounds_toArray, List.set_cons_zero, List.set_cons_succ, List.getElem_toArray, List.getElem_cons_zero, List.getElem_cons_succ]
            refine anyR_take (i := 3) (.bool false) rfl (by kernel_rfl) (by kernel_rfl) (by kernel_rfl) (by kernel_rfl) (fun _ _ _ h => h) (by assumption) ⟨by rfl, ?_⟩ ?_
            · intro W hW
              go_simp
            try simp only [Act.put, List.setIfInBounds_toArray, List.set_cons_zero, List.set_cons_succ, List.getElem_toArray, List.getElem_cons_zero, List.getElem_cons_succ]
            refine anyR_take (i := 4) (.int .i64 (j + 1 : Nat)) rfl (by kernel_rfl) (by kernel_rfl) (by kernel_rfl) (by kernel_rfl) (fun _ _ _ h => h) (by assumption) ⟨by rfl, ?_⟩ ?_
            · intro W hW
              go_simp
            try simp only [Act.put, List.setIfInBounds_toArray, List.set_cons_zero, List.set_cons_succ, List.getElem_toArray, List.getElem_cons_zero, List.getElem_cons_succ]
            refine anyR_take (i := 5) (.bool true) rfl (by kernel_rfl) (by kernel_rfl) (by kernel_rfl) (by kernel_rfl) (fun _ _ _ h => h) (by assumption) ⟨by rfl, ?_⟩ ?_
            · intro W hW
              go_simp
            try simp only [Act.put, List.setIfInBounds_toArray, List.set_cons_zero, List.set_cons_succ, List.getElem_toArray, List.getElem_cons_zero, List.getElem_cons_succ]
            refine anyR_take (i := 6) (.bool true) rfl (by kernel_rfl) (by kernel_rfl) (by kernel_rfl) (by kernel_rfl) (fun _ _ _ h => h) (by assumption) ⟨by rfl, ?_⟩ ?_
            · intro W hW
              go_simp
            try simp only [Act.put, List.setIfInBounds_toArray, List.set_cons_zero, List.set_cons_succ, List.getElem_toArray, List.getElem_cons_zero, List.getElem_cons_succ]
            refine anyR_take (i := 7) (.slice (some ⟨b, off, none⟩) es.length c) rfl (by kernel_rfl) (by kernel_rfl) (by kernel_rfl) (by kernel_rfl) (fun _ _ _ h => h) (by assumption) ⟨by rfl, ?_⟩ ?_
            · intro W hW
              go_simp
            try simp only [Act.put, List.setIfInBounds_toArray, List.set_cons_zero, List.set_cons_succ, List.getElem_toArray, List.getElem_cons_zero, List.getElem_cons_succ]
            refine anyR_take (i := 8) (.int .i64 (j + 1 : Nat)) rfl (by kernel_rfl) (by kernel_rfl) (by kernel_rfl) (by kernel_rfl) (fun _ _ _ h => h) (by assumption) ⟨by rfl, ?_⟩ ?_
            · intro W hW
              go_simp
            try simp only [Act.put, List.setIfInBounds_toArray, List.set_cons_zero, List.set_cons_succ, List.getElem_toArray, List.getElem_cons_zero, List.getElem_cons_succ]
            refine anyR_take (i := 9) (.int .i64 j) rfl (by kernel_rfl) (by kernel_rfl) (by kernel_rfl) (by kernel_rfl) (fun _ _ _ h => h) (by assumption) ⟨by rfl, ?_⟩ ?_
            · intro W hW
              go_simp
            try simp only [Act.put, List.setIfInBounds_toArray, List.set_cons_zero, List.set_cons_succ, List.getElem_toArray, List.getElem_cons_zero, List.getElem_cons_succ]
            refine anyR_take (i := 10) (.pointer (some ⟨b, off + j * 4, none⟩)) rfl (by kernel_rfl) (by kernel_rfl) (by kernel_rfl) (by kernel_rfl) (fun _ _ _ h => h) (by assumption) ⟨by rfl, ?_⟩ ?_
            · intro W hW
              go_simp
            try simp only [Act.put, List.setIfInBounds_toArray, List.set_cons_zero, List.set_cons_succ, List.getElem_toArray, List.getElem_cons_zero, List.getElem_cons_succ]
            refine anyR_take (i := 11) (.pointer (some ⟨b, off + j * 4 + 1, none⟩)) rfl (by kernel_rfl) (by kernel_rfl) (by kernel_rfl) (by kernel_rfl) (fun _ _ _ h => h) (by assumption) ⟨by rfl, ?_⟩ ?_
            · intro W hW
              go_simp
            try simp only [Act.put, List.setIfInBounds_toArray, List.set_cons_zero, List.set_cons_succ, List.getElem_toArray, List.getElem_cons_zero, List.getElem_cons_succ]
            refine anyR_take (i := 12) (.int .i64 pid) rfl (by kernel_rfl) (by kernel_rfl) (by kernel_rfl) (by kernel_rfl) (fun _ _ _ h => h) (by assumption) ⟨by rfl, ?_⟩ ?_
            · intro W hW
              go_simp
            try simp only [Act.put, List.setIfInBounds_toArray, List.set_cons_zero, List.set_cons_succ, List.getElem_toArray, List.getElem_cons_zero, List.getElem_cons_succ]
            refine anyR_take (i := 13) (.pointer (some ⟨g, 1, none⟩)) rfl (by kernel_rfl) (by kernel_rfl) (by kernel_rfl) (by kernel_rfl) (fun _ _ _ h => h) (by assumption) ⟨by rfl, ?_⟩ ?_
            · intro W hW
              go_simp
            try simp only [Act.put, List.setIfInBounds_toArray, List.set_cons_zero, List.set_cons_succ, List.getElem_toArray, List.getElem_cons_zero, List.getElem_cons_succ]
            refine anyR_take (i := 14) (.int .i64 e.id) rfl (by kernel_rfl) (by kernel_rfl) (by kernel_rfl) (by kernel_rfl) (fun _ _ _ h => h) (by assumption) ⟨by rfl, ?_⟩ ?_
            · intro W hW
              go_simp
            try simp only [Act.put, List.setIfInBounds_toArray, List.set_cons_zero, List.set_cons_succ, List.getElem_toArray, List.getElem_cons_zero, List.getElem_cons_succ]
            refine anyR_take (i := 15) (.bool true) rfl (by kernel_rfl) (by kernel_rfl) (by kernel_rfl) (by kernel_rfl) (fun _ _ _ h => h) (by assumption) ⟨by rfl, ?_⟩ ?_
            · intro W hW
              go_simp
            try simp only [Act.put, List.setIfInBounds_toArray, List.set_cons_zero, List.set_cons_succ, List.getElem_toArray, List.getElem_cons_zero, List.getElem_cons_succ]
            refine anyR_take (i := 16) (.bool true) rfl (by kernel_rfl) (by kernel_rfl) (by kernel_rfl) (by kernel_rfl) (fun _ _ _ h => h) (by assumption) ⟨by rfl, ?_⟩ ?_
            · intro W hW
              go_simp
            try simp only [Act.put, List.setIfInBounds_toArray, List.set_cons_zero, List.set_cons_succ, List.getElem_toArray, List.getElem_cons_zero, List.getElem_cons_succ]
            refine anyR_take (i := 17) (.bool true) rfl (by kernel_rfl) (by kernel_rfl) (by kernel_rfl) (by kernel_rfl) (fun _ _ _ h => h) (by assumption) ⟨by rfl, ?_⟩ ?_
            · intro W hW
              go_simp
            try simp only [Act.put, List.setIfInBounds_toArray, List.set_cons_zero, List.set_cons_succ, List.getElem_toArray, List.getElem_cons_zero, List.getElem_cons_succ]
            refine anyR_done (by kernel_rfl) ?_ _
            refine NoPanic.normal ?_
            have BU := Lib.hid hS.1
            clear hS SS
            go_wp2_with fail
            go_ret
            exact ⟨by rw [NO.out]; rfl, bel_trans BA.out BU.out⟩
    · obtain rfl : es.length = k := by omega
      have R := Lib.hid (patB_end HA.out)
      have d0 := decide_eq_false (show ¬ (es.length : Int) < (es.length : Int) by omega)
      by_cases h16 : es.length ≤ 16
      · have d1 := decide_eq_true (show (es.length : Int) ≤ 16 by omega)
        have R1 := Lib.hid (R.out.trans (decide_eq_true h16))
        clear h16
        go_wp2_with fail
        go_ret
        exact ⟨by rw [R1.out]; rfl, HB.out⟩
      · have d1 := decide_eq_false (show ¬ (es.length : Int) ≤ 16 by omega)
        have R1 := Lib.hid (R.out.trans (decide_eq_false h16))
        clear h16
        go_wp2_with fail
        go_ret
        exact ⟨by rw [R1.out]; rfl, HB.out⟩
end Go.Proofs.Ytcoladhppbknnaa
