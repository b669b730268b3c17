/- New assemblies: the reference's. -/
import Derived.Test.YtcoladhppbknnaaAsm
namespace Go.Proofs.Ytcoladhppbknnaa
set_option linter.unusedVariables false
set_option linter.unusedSimpArgs false
set_option maxRecDepth 100000
open Go.RowKit Go.Deep
theorem onlyC (w : World) (g j : Nat) (u : Value) : Only g (g + 1) w (w.setCell ⟨g, j, none⟩ u) :=
  ⟨rfl, rfl, rfl, by simp [World.setCell], fun k _ hk => heap_setCell_other w ⟨g, j, none⟩ k u (by simp; omega)⟩
set_option maxHeartbeats 1000000 in
theorem SNewAssembly_any (mb ru : Int) (A : Option Addr) (n c : Nat) (rs : List Ar) (w : World) (h : Ars w A n c rs) :
    Calls Try.prog 14 #[.int .i64 mb, .int .i64 ru, .slice A n c] w fun e w' => ∃ v, e = .returned (.tuple #[v, .bool (okN mb ru rs)]) ∧ As w.heap.size w'.heap.size w' (selI (okN mb ru rs) ru) (selN (okN mb ru rs) mb) (selL (okN mb ru rs) rs) v ∧ Below w.heap.size w w' := by
  obtain rfl : rs.length = n := h.len
  have n64 := h.short
  have ba := bel_alloc w (.cells #[.int .i64 0, .int .i64 0, .slice none 0 0, .slice none 0 0, .slice none 0 0, .slice none 0 0] 41)
  have H := Lib.hid (h.below ba)
  have BA := Lib.hid ba
  have C := Lib.hid (Cs.new w [.int .i64 0, .int .i64 0, .slice none 0 0, .slice none 0 0, .slice none 0 0, .slice none 0 0] 41)
  clear h ba
  go_enter Try.func14, Try.ntmps14
  go_wp2_with fail
  obtain ⟨w0, hw0⟩ : ∃ x, w.alloc (.cells #[.int .i64 0, .int .i64 0, .slice none 0 0, .slice none 0 0, .slice none 0 0, .slice none 0 0] 41) = x := ⟨_, rfl⟩
  rw [hw0] at C BA H
  rw [hw0]
  clear hw0
  refine (l00In_any mb 1 12 _).mono ?_
  rintro e w1 ⟨rfl, rfl⟩
  cases hin : inR mb 1 12
  · have O := Lib.hid (show okN mb ru rs = false by unfold okN; rw [hin]; rfl)
    clear hin
    have y0 := C.out.cell 0 rfl
    have f0 := C.out.free 0 rfl
    have y1 := C.out.cell 1 rfl
    have f1 := C.out.free 1 rfl
    have y2 := C.out.cell 2 rfl
    have f2 := C.out.free 2 rfl
    have y3 := C.out.cell 3 rfl
    have f3 := C.out.free 3 rfl
    have y4 := C.out.cell 4 rfl
    have f4 := C.out.free 4 rfl
    have y5 := C.out.cell 5 rfl
    have f5 := C.out.free 5 rfl
    have D9 := Lib.hid ((((((C.out.set 0 (.int .i64 0) (by simp)).set 1 (.int .i64 0) (by simp)).set 2 (.slice none 0 0) (by simp)).set 3 (.slice none 0 0) (by simp)).set 4 (.slice none 0 0) (by simp)).set 5 (.slice none 0 0) (by simp))
    have B9 := Lib.hid ((((((BA.out.setCell (p := ⟨w.heap.size, 0, none⟩) (Nat.le_refl _) (.int .i64 0)).setCell (p := ⟨w.heap.size, 1, none⟩) (Nat.le_refl _) (.int .i64 0)).setCell (p := ⟨w.heap.size, 2, none⟩) (Nat.le_refl _) (.slice none 0 0)).setCell (p := ⟨w.heap.size, 3, none⟩) (Nat.le_refl _) (.slice none 0 0)).setCell (p := ⟨w.heap.size, 4, none⟩) (Nat.le_refl _) (.slice none 0 0)).setCell (p := ⟨w.heap.size, 5, none⟩) (Nat.le_refl _) (.slice none 0 0))
    go_wp2_with fail
    obtain ⟨w9, hw9⟩ : ∃ x, ((((((w0.setCell ⟨w.heap.size, 0, none⟩ (.int .i64 0)).setCell ⟨w.heap.size, 1, none⟩ (.int .i64 0)).setCell ⟨w.heap.size, 2, none⟩ (.slice none 0 0)).setCell ⟨w.heap.size, 3, none⟩ (.slice none 0 0)).setCell ⟨w.heap.size, 4, none⟩ (.slice none 0 0)).setCell ⟨w.heap.size, 5, none⟩ (.slice none 0 0)) = x := ⟨_, rfl⟩
    rw [hw9] at D9 B9 ⊢
    clear hw9
    have x0 := D9.out.cell 0 (v := .int .i64 0) (by simp)
    have x1 := D9.out.cell 1 (v := .int .i64 0) (by simp)
    have x2 := D9.out.cell 2 (v := .slice none 0 0) (by simp)
    have x3 := D9.out.cell 3 (v := .slice none 0 0) (by simp)
    have x4 := D9.out.cell 4 (v := .slice none 0 0) (by simp)
    have x5 := D9.out.cell 5 (v := .slice none 0 0) (by simp)
    rw [O.out]
    exact bodyPost_ret (v := .tuple #[.agg #[.int .i64 0, .int .i64 0, .slice none 0 0, .slice none 0 0, .slice none 0 0, .slice none 0 0], .bool false]) (by simp [results, Try.results14, go_sem, x0, x1, x2, x3, x4, x5]) rfl ⟨_, rfl, as_zero _ _ _, B9.out⟩
  have hmb := inR_true.1 hin
  go_wp2_with fail
  refine (l02Rule_any ru _).mono ?_
  rintro e w1 ⟨rfl, rfl⟩
  cases hru : inR ru 0 2
  · have O := Lib.hid (show okN mb ru rs = false by unfold okN; rw [hin, hru]; rfl)
    clear hin hru
    have y0 := C.out.cell 0 rfl
    have f0 := C.out.free 0 rfl
    have y1 := C.out.cell 1 rfl
    have f1 := C.out.free 1 rfl
    have y2 := C.out.cell 2 rfl
    have f2 := C.out.free 2 rfl
    have y3 := C.out.cell 3 rfl
    have f3 := C.out.free 3 rfl
    have y4 := C.out.cell 4 rfl
    have f4 := C.out.free 4 rfl
    have y5 := C.out.cell 5 rfl
    have f5 := C.out.free 5 rfl
    have D9 := Lib.hid ((((((C.out.set 0 (.int .i64 0) (by simp)).set 1 (.int .i64 0) (by simp)).set 2 (.slice none 0 0) (by simp)).set 3 (.slice none 0 0) (by simp)).set 4 (.slice none 0 0) (by simp)).set 5 (.slice none 0 0) (by simp))
    have B9 := Lib.hid ((((((BA.out.setCell (p := ⟨w.heap.size, 0, none⟩) (Nat.le_refl _) (.int .i64 0)).setCell (p := ⟨w.heap.size, 1, none⟩) (Nat.le_refl _) (.int .i64 0)).setCell (p := ⟨w.heap.size, 2, none⟩) (Nat.le_refl _) (.slice none 0 0)).setCell (p := ⟨w.heap.size, 3, none⟩) (Nat.le_refl _) (.slice none 0 0)).setCell (p := ⟨w.heap.size, 4, none⟩) (Nat.le_refl _) (.slice none 0 0)).setCell (p := ⟨w.heap.size, 5, none⟩) (Nat.le_refl _) (.slice none 0 0))
    go_wp2_with fail
    obtain ⟨w9, hw9⟩ : ∃ x, ((((((w0.setCell ⟨w.heap.size, 0, none⟩ (.int .i64 0)).setCell ⟨w.heap.size, 1, none⟩ (.int .i64 0)).setCell ⟨w.heap.size, 2, none⟩ (.slice none 0 0)).setCell ⟨w.heap.size, 3, none⟩ (.slice none 0 0)).setCell ⟨w.heap.size, 4, none⟩ (.slice none 0 0)).setCell ⟨w.heap.size, 5, none⟩ (.slice none 0 0)) = x := ⟨_, rfl⟩
    rw [hw9] at D9 B9 ⊢
    clear hw9
    have x0 := D9.out.cell 0 (v := .int .i64 0) (by simp)
    have x1 := D9.out.cell 1 (v := .int .i64 0) (by simp)
    have x2 := D9.out.cell 2 (v := .slice none 0 0) (by simp)
    have x3 := D9.out.cell 3 (v := .slice none 0 0) (by simp)
    have x4 := D9.out.cell 4 (v := .slice none 0 0) (by simp)
    have x5 := D9.out.cell 5 (v := .slice none 0 0) (by simp)
    rw [O.out]
    exact bodyPost_ret (v := .tuple #[.agg #[.int .i64 0, .int .i64 0, .slice none 0 0, .slice none 0 0, .slice none 0 0, .slice none 0 0], .bool false]) (by simp [results, Try.results14, go_sem, x0, x1, x2, x3, x4, x5]) rfl ⟨_, rfl, as_zero _ _ _, B9.out⟩
  go_wp2_with fail
  refine (l07Statute_any A rs.length c rs _ H.out).mono ?_
  rintro e w1 ⟨rfl, b1⟩
  replace C := Lib.hid (C.out.below b1)
  replace H := Lib.hid (H.out.below b1)
  replace BA := Lib.hid (bel_trans BA.out b1)
  clear b1
  cases hst : staB rs
  · have O := Lib.hid (show okN mb ru rs = false by unfold okN; rw [hin, hru, hst]; rfl)
    clear hin hru hst
    have y0 := C.out.cell 0 rfl
    have f0 := C.out.free 0 rfl
    have y1 := C.out.cell 1 rfl
    have f1 := C.out.free 1 rfl
    have y2 := C.out.cell 2 rfl
    have f2 := C.out.free 2 rfl
    have y3 := C.out.cell 3 rfl
    have f3 := C.out.free 3 rfl
    have y4 := C.out.cell 4 rfl
    have f4 := C.out.free 4 rfl
    have y5 := C.out.cell 5 rfl
    have f5 := C.out.free 5 rfl
    have D9 := Lib.hid ((((((C.out.set 0 (.int .i64 0) (by simp)).set 1 (.int .i64 0) (by simp)).set 2 (.slice none 0 0) (by simp)).set 3 (.slice none 0 0) (by simp)).set 4 (.slice none 0 0) (by simp)).set 5 (.slice none 0 0) (by simp))
    have B9 := Lib.hid ((((((BA.out.setCell (p := ⟨w.heap.size, 0, none⟩) (Nat.le_refl _) (.int .i64 0)).setCell (p := ⟨w.heap.size, 1, none⟩) (Nat.le_refl _) (.int .i64 0)).setCell (p := ⟨w.heap.size, 2, none⟩) (Nat.le_refl _) (.slice none 0 0)).setCell (p := ⟨w.heap.size, 3, none⟩) (Nat.le_refl _) (.slice none 0 0)).setCell (p := ⟨w.heap.size, 4, none⟩) (Nat.le_refl _) (.slice none 0 0)).setCell (p := ⟨w.heap.size, 5, none⟩) (Nat.le_refl _) (.slice none 0 0))
    go_wp2_with fail
    obtain ⟨w9, hw9⟩ : ∃ x, ((((((w1.setCell ⟨w.heap.size, 0, none⟩ (.int .i64 0)).setCell ⟨w.heap.size, 1, none⟩ (.int .i64 0)).setCell ⟨w.heap.size, 2, none⟩ (.slice none 0 0)).setCell ⟨w.heap.size, 3, none⟩ (.slice none 0 0)).setCell ⟨w.heap.size, 4, none⟩ (.slice none 0 0)).setCell ⟨w.heap.size, 5, none⟩ (.slice none 0 0)) = x := ⟨_, rfl⟩
    rw [hw9] at D9 B9 ⊢
    clear hw9
    have x0 := D9.out.cell 0 (v := .int .i64 0) (by simp)
    have x1 := D9.out.cell 1 (v := .int .i64 0) (by simp)
    have x2 := D9.out.cell 2 (v := .slice none 0 0) (by simp)
    have x3 := D9.out.cell 3 (v := .slice none 0 0) (by simp)
    have x4 := D9.out.cell 4 (v := .slice none 0 0) (by simp)
    have x5 := D9.out.cell 5 (v := .slice none 0 0) (by simp)
    rw [O.out]
    exact bodyPost_ret (v := .tuple #[.agg #[.int .i64 0, .int .i64 0, .slice none 0 0, .slice none 0 0, .slice none 0 0, .slice none 0 0], .bool false]) (by simp [results, Try.results14, go_sem, x0, x1, x2, x3, x4, x5]) rfl ⟨_, rfl, as_zero _ _ _, B9.out⟩
  have O := Lib.hid (show okN mb ru rs = true by unfold okN; rw [hin, hru, hst]; rfl)
  have l8 := staB_len hst
  clear hin hru hst
  obtain ⟨M, rfl⟩ : ∃ M : Nat, mb = (M : Int) := ⟨mb.toNat, by omega⟩
  obtain ⟨i0, hi, hzz⟩ := Option.map_eq_some_iff.1 info_ar
  simp only [Prod.mk.injEq] at hzz
  obtain ⟨hz0, hz1, hz2⟩ := hzz
  have bl := bel_alloc w1 (.cells #[] 70)
  have e1 : (w1.alloc (.cells #[] 70)).heap.size = w1.heap.size + 1 := by simp
  have RUN := run_app_recs (P := Try.prog) (w1.alloc (.cells #[] 70)) 37 37 70 w1.heap.size i0 _ 2 24 Try.underlying37 hi hz0 hz1 hz2 rfl (by omega) (some ⟨w1.heap.size, 0, none⟩) 0 0 [] (made_none w1) A rs.length c (rs.map Ar.vals) (H.out.below bl).1 ar_two ar_one (by unfold maxLen; omega) (by omega) (by rw [e1]; omega)
  have hw1 := C.out.1
  have CL := C.out.below bl
  have BL := bel_trans BA.out bl
  clear hi hz0 hz1 hz2 bl H
  go_wp2_with (at_builtin; refine app_recs _ rfl _ _ _ _ rfl (some ⟨w1.heap.size, 0, none⟩) 0 0 rfl A rs.length c rfl RUN ?_; intro A' c' w5 p1 p2)
  rw [Nat.zero_add, List.nil_append] at p1
  have bA := bel_alloc w5 (.cells #[.int .i64 0, .int .i64 ru, .slice none 0 0, .slice A' rs.length c', .slice none 0 0, .slice none 0 0] 41)
  have hsz5 : w.heap.size + 1 ≤ w5.heap.size := by have := p2.size; rw [e1] at this; omega
  have HZ := Lib.hid ((CL.kept p2 (by simp [Value.ownBlock]; omega)).below bA)
  have HG := Lib.hid (Cs.new w5 [.int .i64 0, .int .i64 ru, .slice none 0 0, .slice A' rs.length c', .slice none 0 0, .slice none 0 0] 41)
  have HR := Lib.hid ((RR.mk' (p1.mono (b2 := w.heap.size + 1) (by omega))).below bA)
  have HW := Lib.hid (bel_trans (BL.grown p2 (by rw [e1]; omega) (fun k hk => by simp [Value.ownBlock] at hk; omega)) bA)
  obtain ⟨i1, hi1, hy0, hy1, hy2⟩ := info_parts info_row
  have OT0 := Lib.hid (ownR_nil 22 1 (w5.alloc (.cells #[.int .i64 0, .int .i64 ru, .slice none 0 0, .slice A' rs.length c', .slice none 0 0, .slice none 0 0] 41)) (w5.heap.size + 1))
  obtain ⟨w6, hw6⟩ : ∃ x, w5.alloc (.cells #[.int .i64 0, .int .i64 ru, .slice none 0 0, .slice A' rs.length c', .slice none 0 0, .slice none 0 0] 41) = x := ⟨_, rfl⟩
  obtain ⟨gA, hgA⟩ : ∃ x, w5.heap.size = x := ⟨_, rfl⟩
  rw [hw6] at HZ HG HR HW OT0
  rw [hw6]
  rw [hgA] at HG HR OT0 hsz5
  rw [hgA]
  clear hw6 hgA bA p1 p2 CL BL RUN e1 hw1
  go_loopw [9] (fun q wr => ∃ (k : Nat) (TA : Option Addr) (tc : Nat) (trs : List (List Value)), k ≤ M ∧ q = .int .i64 k ∧ Cs wr gA [.int .i64 0, .int .i64 ru, .slice TA k tc, .slice A' rs.length c', .slice none 0 0, .slice none 0 0] ∧ OwnR 22 1 wr (gA + 1) TA k tc trs ∧ (∀ r ∈ trs, ∃ X c', r = [.slice X 0 c']) ∧
    Cs wr w.heap.size [.int .i64 0, .int .i64 0, .slice none 0 0, .slice none 0 0, .slice none 0 0, .slice none 0 0] ∧ RR 70 2 (w.heap.size + 1) gA wr A' rs.length c' (rs.map Ar.vals) ∧ Below w.heap.size w wr) (fun q _ => M - (intOf q).toNat)
  case atStart => exact ⟨0, none, 0, [], Nat.zero_le _, rfl, HG.out, OT0.out, by simp, HZ.out, HR.out, HW.out⟩
  case round =>
    obtain ⟨k, TA, tc, trs, hk, rfl, hg, ho, hre, hz, hr, hb⟩ := hrel
    have KG := Lib.hid hg
    have KO := Lib.hid ho
    have KE := Lib.hid hre
    have KZ := Lib.hid hz
    have KR := Lib.hid hr
    have KB := Lib.hid hb
    clear hg ho hre hz hr hb HZ HG HR HW OT0
    by_cases hlt : k < M
    · have d0 := decide_eq_true (show (k : Int) < (M : Int) by omega)
      have y2 := KG.out.cell 2 rfl
      have be := bel_alloc wr (.cells #[] 2)
      have es : (wr.alloc (.cells #[] 2)).heap.size = wr.heap.size + 1 := by simp
      have b1 := bel_alloc (wr.alloc (.cells #[] 2)) (.cells #[.slice (some ⟨wr.heap.size, 0, none⟩) 0 0] 22)
      have KG2 := KG.out.below be
      have hgw := KG.out.1
      have KZ2 := KZ.out.below be
      have KR2 := KR.out.below be
      have KB2 := bel_trans KB.out be
      have KO2 := KO.out.below be
      go_wp2_with (at_builtin; refine app_rec (wr.alloc (.cells #[] 2)) rfl _ _ _ _ rfl (gA + 1) i1 _ 1 24 Try.underlying36 hi1 hy0 hy1 hy2 rfl (by omega) TA k tc trs rfl KO2 [.slice (some ⟨wr.heap.size, 0, none⟩) 0 0] rfl (by intro u hu; simp at hu; subst hu; rfl) (by rw [es]; rfl) (by unfold maxLen; omega) (by omega) (by rw [es]; omega) ?_; intro A2 c2 w7 p1 p2 p3; have o7 := Only.of_grown (lo := gA + 1) (hi := wr.heap.size + 1) p2 (fun x hx => by have := KO2.block x hx; rw [es] at this; exact this); have KG7 := KG2.only o7 (.inl (by omega)); have y7 := KG7.cell 2 rfl; have f7 := KG7.free 2 rfl)
      have o8 := onlyC w7 gA 2 (.slice A2 (k + 1) c2)
      refine ⟨⟨k + 1, A2, c2, _, by omega, by go_num, KG7.set 2 (.slice A2 (k + 1) c2) (by simp), p1.farS (Nat.lt_succ_self _) 2 (.slice A2 (k + 1) c2), ?_, (KZ2.only o7 (.inl (by omega))).only o8 (.inl (by omega)), (KR2.only o7 (.inl (Nat.le_succ _))).only o8 (.inl (Nat.le_refl _)), bel_only (bel_only KB2 o7 (by omega)) o8 (by omega)⟩, ?_⟩
      · intro r hr
        rcases List.mem_append.1 hr with hr | hr
        · exact KE.out r hr
        · simp at hr
          exact ⟨_, _, hr⟩
      · simp [intOf]
        omega
    · obtain rfl : M = k := by omega
      have d0 := decide_eq_false (show ¬ (M : Int) < (M : Int) by omega)
      have z0 := KG.out.cell 0 rfl
      have y0 := KZ.out.cell 0 rfl
      have f0 := KZ.out.free 0 rfl
      have z1 := KG.out.cell 1 rfl
      have y1 := KZ.out.cell 1 rfl
      have f1 := KZ.out.free 1 rfl
      have z2 := KG.out.cell 2 rfl
      have y2 := KZ.out.cell 2 rfl
      have f2 := KZ.out.free 2 rfl
      have z3 := KG.out.cell 3 rfl
      have y3 := KZ.out.cell 3 rfl
      have f3 := KZ.out.free 3 rfl
      have z4 := KG.out.cell 4 rfl
      have y4 := KZ.out.cell 4 rfl
      have f4 := KZ.out.free 4 rfl
      have z5 := KG.out.cell 5 rfl
      have y5 := KZ.out.cell 5 rfl
      have f5 := KZ.out.free 5 rfl
      have D9 := Lib.hid ((((((KZ.out.set 0 (.int .i64 0) (by simp)).set 1 (.int .i64 ru) (by simp)).set 2 (.slice TA M tc) (by simp)).set 3 (.slice A' rs.length c') (by simp)).set 4 (.slice none 0 0) (by simp)).set 5 (.slice none 0 0) (by simp))
      have B9 := Lib.hid ((((((KB.out.setCell (p := ⟨w.heap.size, 0, none⟩) (Nat.le_refl _) (.int .i64 0)).setCell (p := ⟨w.heap.size, 1, none⟩) (Nat.le_refl _) (.int .i64 ru)).setCell (p := ⟨w.heap.size, 2, none⟩) (Nat.le_refl _) (.slice TA M tc)).setCell (p := ⟨w.heap.size, 3, none⟩) (Nat.le_refl _) (.slice A' rs.length c')).setCell (p := ⟨w.heap.size, 4, none⟩) (Nat.le_refl _) (.slice none 0 0)).setCell (p := ⟨w.heap.size, 5, none⟩) (Nat.le_refl _) (.slice none 0 0))
      have T9 := Lib.hid (((((((KO.out.mono (b2 := w.heap.size + 1) (by omega)).farS (g := w.heap.size) (Nat.lt_succ_self _) 0 (.int .i64 0)).farS (g := w.heap.size) (Nat.lt_succ_self _) 1 (.int .i64 ru)).farS (g := w.heap.size) (Nat.lt_succ_self _) 2 (.slice TA M tc)).farS (g := w.heap.size) (Nat.lt_succ_self _) 3 (.slice A' rs.length c')).farS (g := w.heap.size) (Nat.lt_succ_self _) 4 (.slice none 0 0)).farS (g := w.heap.size) (Nat.lt_succ_self _) 5 (.slice none 0 0))
      have A9 := Lib.hid ((((((KR.out.own.farS (g := w.heap.size) (Nat.lt_succ_self _) 0 (.int .i64 0)).farS (g := w.heap.size) (Nat.lt_succ_self _) 1 (.int .i64 ru)).farS (g := w.heap.size) (Nat.lt_succ_self _) 2 (.slice TA M tc)).farS (g := w.heap.size) (Nat.lt_succ_self _) 3 (.slice A' rs.length c')).farS (g := w.heap.size) (Nat.lt_succ_self _) 4 (.slice none 0 0)).farS (g := w.heap.size) (Nat.lt_succ_self _) 5 (.slice none 0 0))
      go_wp2_with fail
      obtain ⟨w9, hw9⟩ : ∃ x, ((((((wr.setCell ⟨w.heap.size, 0, none⟩ (.int .i64 0)).setCell ⟨w.heap.size, 1, none⟩ (.int .i64 ru)).setCell ⟨w.heap.size, 2, none⟩ (.slice TA M tc)).setCell ⟨w.heap.size, 3, none⟩ (.slice A' rs.length c')).setCell ⟨w.heap.size, 4, none⟩ (.slice none 0 0)).setCell ⟨w.heap.size, 5, none⟩ (.slice none 0 0)) = x := ⟨_, rfl⟩
      rw [hw9] at D9 B9 T9 A9 ⊢
      clear hw9
      have x0 := D9.out.cell 0 (v := .int .i64 0) (by simp)
      have x1 := D9.out.cell 1 (v := .int .i64 ru) (by simp)
      have x2 := D9.out.cell 2 (v := .slice TA M tc) (by simp)
      have x3 := D9.out.cell 3 (v := .slice A' rs.length c') (by simp)
      have x4 := D9.out.cell 4 (v := .slice none 0 0) (by simp)
      have x5 := D9.out.cell 5 (v := .slice none 0 0) (by simp)
      rw [O.out]
      exact bodyPost_ret (v := .tuple #[.agg #[.int .i64 0, .int .i64 ru, .slice TA M tc, .slice A' rs.length c', .slice none 0 0, .slice none 0 0], .bool true]) (by simp [results, Try.results14, go_sem, x0, x1, x2, x3, x4, x5]) rfl ⟨_, rfl, ⟨_, _, A', c', _, rfl, (RR.mk' T9.out).wide (Nat.le_succ _) (Nat.le_refl _), KE.out, (RR.mk' A9.out).wide (Nat.le_succ _) (Nat.le_refl _)⟩, B9.out⟩
end Go.Proofs.Ytcoladhppbknnaa
