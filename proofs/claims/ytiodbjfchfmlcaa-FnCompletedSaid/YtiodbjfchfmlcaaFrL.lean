/- The laws' operations on fractions, walked. -/
import Derived.Test.YtiodbjfchfmlcaaFrW
namespace Go.Proofs.Ytiodbjfchfmlcaa
set_option linter.unusedVariables false
set_option linter.unusedSimpArgs false
set_option maxRecDepth 100000
open Go.RowKit Go.Deep
theorem whole_raw (c : Int) (w : World) :
    Calls Try.prog 33 #[.int .i64 c] w fun e w' => e = .returned (.agg #[.int .i64 c, .int .i64 1]) ∧ Below w.heap.size w w' := by
  go_enter Try.func33, Try.ntmps33
  go_wp2_with fail
  exact bodyPost_ret (v := .agg #[.int .i64 c, .int .i64 1]) (by simp [results, Try.results33, go_sem]) rfl ⟨rfl, bel_alloc _ _⟩
theorem whole_FV (c : Int) {D : Int} (h : 1 ≤ D) : FV (c * D) D = .agg #[.int .i64 c, .int .i64 1] := by
  unfold FV
  rw [(red_whole c h).1, (red_whole c h).2]
theorem whole_ok (c : Int) {D : Int} (h : 1 ≤ D) (w : World) :
    Calls Try.prog 33 #[.int .i64 c] w fun e w' => e = .returned (FV (c * D) D) ∧ Below w.heap.size w w' := by
  rw [whole_FV c h]
  exact whole_raw c w
/-- Small enough to be valid. -/
structure Va (a D : Int) : Prop where
  d1 : 1 ≤ D
  d2 : D ≤ 2097152
  a1 : -1000000000 ≤ a
  a2 : a ≤ 1000000000
theorem Va.sm {a D : Int} (h : Va a D) : Sm a D := ⟨h.d1, h.d2, by have := h.a1; omega, by have := h.a2; omega⟩
theorem Va.ok {a D : Int} (h : Va a D) : okF (redN a D) (redD a D) = true := red_ok h.a1 h.a2 h.d1 (by have := h.d2; omega)
theorem valid_ok {a D : Int} (h : Va a D) (w : World) : Calls Try.prog 30 #[FV a D] w fun e w' => e = .returned (.bool true) ∧ Below w.heap.size w w' := by
  have := validFraction_any (redN a D) (redD a D) w
  rw [h.ok] at this
  exact this
theorem told_ok {a D : Int} (h : Va a D) (w : World) : Calls Try.prog 39 #[FV a D] w fun e w' => e = .returned (.tuple #[FV a D, .bool true]) ∧ Below w.heap.size w w' := by
  have := told_any (redN a D) (redD a D) w
  rw [h.ok, (told_yes h.ok).1, (told_yes h.ok).2] at this
  exact this
theorem addF_ok {x y D : Int} (h : Va x D) (k : Va y D) (r : Va (x + y) D) (w : World) :
    Calls Try.prog 17 #[FV x D, FV y D] w fun e w' => e = .returned (.tuple #[FV (x + y) D, .bool true]) ∧ Below w.heap.size w w' := by
  have V1 := Lib.hid (fun W => valid_ok h W)
  have V2 := Lib.hid (fun W => valid_ok k W)
  have PL := Lib.hid (fun W => plus_ok h.sm k.sm W)
  have TO := Lib.hid (fun W => told_ok r W)
  unfold FV at V1 V2 PL TO ⊢
  obtain ⟨a, ha⟩ : ∃ z, redN x D = z := ⟨_, rfl⟩
  obtain ⟨b, hb⟩ : ∃ z, redD x D = z := ⟨_, rfl⟩
  obtain ⟨c, hc⟩ : ∃ z, redN y D = z := ⟨_, rfl⟩
  obtain ⟨d, hd⟩ : ∃ z, redD y D = z := ⟨_, rfl⟩
  obtain ⟨N, hN⟩ : ∃ z, redN (x + y) D = z := ⟨_, rfl⟩
  obtain ⟨M, hM⟩ : ∃ z, redD (x + y) D = z := ⟨_, rfl⟩
  rw [ha, hb] at V1
  rw [hc, hd] at V2
  rw [hN, hM] at TO
  rw [ha, hb, hc, hd, hN, hM] at PL ⊢
  clear ha hb hc hd hN hM h k r
  have CA := Lib.hid (Cs.new w [.int .i64 a, .int .i64 b] 32)
  have CB := Lib.hid (Cs.new (w.alloc (.cells #[.int .i64 a, .int .i64 b] 32)) [.int .i64 c, .int .i64 d] 32)
  have CR := Lib.hid (Cs.new ((w.alloc (.cells #[.int .i64 a, .int .i64 b] 32)).alloc (.cells #[.int .i64 c, .int .i64 d] 32)) [.int .i64 0, .int .i64 0] 32)
  have bb := Lib.hid (bel_trans (bel_alloc w (.cells #[.int .i64 a, .int .i64 b] 32)) (bel_trans (bel_alloc _ (.cells #[.int .i64 c, .int .i64 d] 32)) (bel_alloc _ (.cells #[.int .i64 0, .int .i64 0] 32))))
  have CA1 := Lib.hid (CA.out.below (bel_trans (bel_alloc _ (.cells #[.int .i64 c, .int .i64 d] 32)) (bel_alloc _ (.cells #[.int .i64 0, .int .i64 0] 32))))
  have CB1 := Lib.hid (CB.out.below (bel_alloc _ (.cells #[.int .i64 0, .int .i64 0] 32)))
  obtain ⟨g, hg⟩ : ∃ z, w.heap.size = z := ⟨_, rfl⟩
  have hg1 : (w.alloc (.cells #[.int .i64 a, .int .i64 b] 32)).heap.size = g + 1 := by rw [← hg]; simp
  have hg2 : ((w.alloc (.cells #[.int .i64 a, .int .i64 b] 32)).alloc (.cells #[.int .i64 c, .int .i64 d] 32)).heap.size = g + 2 := by rw [← hg]; simp
  simp only [List.toArray] at CA1 CB1 CR
  rw [hg] at CA1
  rw [hg1] at CB1
  rw [hg2] at CR
  clear CA CB
  go_enter Try.func17, Try.ntmps17
  go_wp2_with fail
  refine (V1.out _).mono ?_
  rintro e w1 ⟨rfl, b1⟩
  have C1 := Lib.hid (CA1.out.below b1)
  have C2 := Lib.hid (CB1.out.below b1)
  have C3 := Lib.hid (CR.out.below b1)
  have B1 := Lib.hid (bel_trans bb.out b1)
  clear b1 V1 CA1 CB1 CR bb
  have y0 := C2.out.cell 0 rfl
  have y1 := C2.out.cell 1 rfl
  go_wp2_with fail
  refine (V2.out _).mono ?_
  rintro e w2 ⟨rfl, b2⟩
  have E1 := Lib.hid (C1.out.below b2)
  have E2 := Lib.hid (C2.out.below b2)
  have E3 := Lib.hid (C3.out.below b2)
  have B2 := Lib.hid (bel_trans B1.out b2)
  clear b2 V2 C1 C2 C3 B1 y0 y1
  have y0 := E1.out.cell 0 rfl
  have y1 := E1.out.cell 1 rfl
  have y2 := E2.out.cell 0 rfl
  have y3 := E2.out.cell 1 rfl
  go_wp2_with fail
  refine (PL.out _).mono ?_
  rintro e w3 ⟨rfl, b3⟩
  go_wp2_with fail
  refine (TO.out _).mono ?_
  rintro e w4 ⟨rfl, b4⟩
  have F3 := E3.out.below (bel_trans b3 b4)
  have B4 := Lib.hid (bel_trans B2.out (bel_trans b3 b4))
  clear b3 b4 E1 E2 E3 B2 y0 y1 y2 y3
  have q0 := F3.cell 0 rfl
  have q1 := F3.cell 1 rfl
  have f0 := F3.free 0 rfl
  have f1 := F3.free 1 rfl
  have C9 := (F3.set 0 (.int .i64 N) (by simp)).set 1 (.int .i64 M) (by simp)
  have z0 := C9.cell 0 rfl
  have z1 := C9.cell 1 rfl
  clear F3 C9
  go_wp2_with fail
  exact bodyPost_ret (v := .tuple #[.agg #[.int .i64 N, .int .i64 M], .bool true]) (by simp [results, Try.results17, go_sem, z0, z1]) rfl ⟨rfl, (B4.out.setCell (by rw [hg]; show g ≤ g + 2; omega) _).setCell (by rw [hg]; show g ≤ g + 2; omega) _⟩
theorem subF_ok {x y D : Int} (h : Va x D) (k : Va y D) (r : Va (x - y) D) (w : World) :
    Calls Try.prog 16 #[FV x D, FV y D] w fun e w' => e = .returned (.tuple #[FV (x - y) D, .bool true]) ∧ Below w.heap.size w w' := by
  have V1 := Lib.hid (fun W => valid_ok h W)
  have V2 := Lib.hid (fun W => valid_ok k W)
  have PL := Lib.hid (fun W => minus_ok h.sm k.sm W)
  have TO := Lib.hid (fun W => told_ok r W)
  unfold FV at V1 V2 PL TO ⊢
  obtain ⟨a, ha⟩ : ∃ z, redN x D = z := ⟨_, rfl⟩
  obtain ⟨b, hb⟩ : ∃ z, redD x D = z := ⟨_, rfl⟩
  obtain ⟨c, hc⟩ : ∃ z, redN y D = z := ⟨_, rfl⟩
  obtain ⟨d, hd⟩ : ∃ z, redD y D = z := ⟨_, rfl⟩
  obtain ⟨N, hN⟩ : ∃ z, redN (x - y) D = z := ⟨_, rfl⟩
  obtain ⟨M, hM⟩ : ∃ z, redD (x - y) D = z := ⟨_, rfl⟩
  rw [ha, hb] at V1
  rw [hc, hd] at V2
  rw [hN, hM] at TO
  rw [ha, hb, hc, hd, hN, hM] at PL ⊢
  clear ha hb hc hd hN hM h k r
  have CA := Lib.hid (Cs.new w [.int .i64 a, .int .i64 b] 32)
  have CB := Lib.hid (Cs.new (w.alloc (.cells #[.int .i64 a, .int .i64 b] 32)) [.int .i64 c, .int .i64 d] 32)
  have CR := Lib.hid (Cs.new ((w.alloc (.cells #[.int .i64 a, .int .i64 b] 32)).alloc (.cells #[.int .i64 c, .int .i64 d] 32)) [.int .i64 0, .int .i64 0] 32)
  have bb := Lib.hid (bel_trans (bel_alloc w (.cells #[.int .i64 a, .int .i64 b] 32)) (bel_trans (bel_alloc _ (.cells #[.int .i64 c, .int .i64 d] 32)) (bel_alloc _ (.cells #[.int .i64 0, .int .i64 0] 32))))
  have CA1 := Lib.hid (CA.out.below (bel_trans (bel_alloc _ (.cells #[.int .i64 c, .int .i64 d] 32)) (bel_alloc _ (.cells #[.int .i64 0, .int .i64 0] 32))))
  have CB1 := Lib.hid (CB.out.below (bel_alloc _ (.cells #[.int .i64 0, .int .i64 0] 32)))
  obtain ⟨g, hg⟩ : ∃ z, w.heap.size = z := ⟨_, rfl⟩
  have hg1 : (w.alloc (.cells #[.int .i64 a, .int .i64 b] 32)).heap.size = g + 1 := by rw [← hg]; simp
  have hg2 : ((w.alloc (.cells #[.int .i64 a, .int .i64 b] 32)).alloc (.cells #[.int .i64 c, .int .i64 d] 32)).heap.size = g + 2 := by rw [← hg]; simp
  simp only [List.toArray] at CA1 CB1 CR
  rw [hg] at CA1
  rw [hg1] at CB1
  rw [hg2] at CR
  clear CA CB
  go_enter Try.func16, Try.ntmps16
  go_wp2_with fail
  refine (V1.out _).mono ?_
  rintro e w1 ⟨rfl, b1⟩
  have C1 := Lib.hid (CA1.out.below b1)
  have C2 := Lib.hid (CB1.out.below b1)
  have C3 := Lib.hid (CR.out.below b1)
  have B1 := Lib.hid (bel_trans bb.out b1)
  clear b1 V1 CA1 CB1 CR bb
  have y0 := C2.out.cell 0 rfl
  have y1 := C2.out.cell 1 rfl
  go_wp2_with fail
  refine (V2.out _).mono ?_
  rintro e w2 ⟨rfl, b2⟩
  have E1 := Lib.hid (C1.out.below b2)
  have E2 := Lib.hid (C2.out.below b2)
  have E3 := Lib.hid (C3.out.below b2)
  have B2 := Lib.hid (bel_trans B1.out b2)
  clear b2 V2 C1 C2 C3 B1 y0 y1
  have y0 := E1.out.cell 0 rfl
  have y1 := E1.out.cell 1 rfl
  have y2 := E2.out.cell 0 rfl
  have y3 := E2.out.cell 1 rfl
  go_wp2_with fail
  refine (PL.out _).mono ?_
  rintro e w3 ⟨rfl, b3⟩
  go_wp2_with fail
  refine (TO.out _).mono ?_
  rintro e w4 ⟨rfl, b4⟩
  have F3 := E3.out.below (bel_trans b3 b4)
  have B4 := Lib.hid (bel_trans B2.out (bel_trans b3 b4))
  clear b3 b4 E1 E2 E3 B2 y0 y1 y2 y3
  have q0 := F3.cell 0 rfl
  have q1 := F3.cell 1 rfl
  have f0 := F3.free 0 rfl
  have f1 := F3.free 1 rfl
  have C9 := (F3.set 0 (.int .i64 N) (by simp)).set 1 (.int .i64 M) (by simp)
  have z0 := C9.cell 0 rfl
  have z1 := C9.cell 1 rfl
  clear F3 C9
  go_wp2_with fail
  exact bodyPost_ret (v := .tuple #[.agg #[.int .i64 N, .int .i64 M], .bool true]) (by simp [results, Try.results16, go_sem, z0, z1]) rfl ⟨rfl, (B4.out.setCell (by rw [hg]; show g ≤ g + 2; omega) _).setCell (by rw [hg]; show g ≤ g + 2; omega) _⟩
theorem cmpF_ok {x y D : Int} (h : Va x D) (k : Va y D) (w : World) :
    Calls Try.prog 10 #[FV x D, FV y D] w fun e w' => e = .returned (.tuple #[.int .i64 (cmpI x y), .bool true]) ∧ Below w.heap.size w w' := by
  have V1 := Lib.hid (fun W => valid_ok h W)
  have V2 := Lib.hid (fun W => valid_ok k W)
  have PL := Lib.hid (fun W => compare_ok h.sm k.sm W)
  unfold FV at V1 V2 PL ⊢
  obtain ⟨a, ha⟩ : ∃ z, redN x D = z := ⟨_, rfl⟩
  obtain ⟨b, hb⟩ : ∃ z, redD x D = z := ⟨_, rfl⟩
  obtain ⟨c, hc⟩ : ∃ z, redN y D = z := ⟨_, rfl⟩
  obtain ⟨d, hd⟩ : ∃ z, redD y D = z := ⟨_, rfl⟩
  obtain ⟨N, hN⟩ : ∃ z, cmpI x y = z := ⟨_, rfl⟩
  rw [ha, hb] at V1
  rw [hc, hd] at V2
  rw [ha, hb, hc, hd, hN] at PL ⊢
  clear ha hb hc hd hN h k
  have CA := Lib.hid (Cs.new w [.int .i64 a, .int .i64 b] 32)
  have CB := Lib.hid (Cs.new (w.alloc (.cells #[.int .i64 a, .int .i64 b] 32)) [.int .i64 c, .int .i64 d] 32)
  have bb := Lib.hid (bel_trans (bel_alloc w (.cells #[.int .i64 a, .int .i64 b] 32)) (bel_alloc _ (.cells #[.int .i64 c, .int .i64 d] 32)))
  have CA1 := Lib.hid (CA.out.below (bel_alloc _ (.cells #[.int .i64 c, .int .i64 d] 32)))
  obtain ⟨g, hg⟩ : ∃ z, w.heap.size = z := ⟨_, rfl⟩
  have hg1 : (w.alloc (.cells #[.int .i64 a, .int .i64 b] 32)).heap.size = g + 1 := by rw [← hg]; simp
  simp only [List.toArray] at CA1 CB
  rw [hg] at CA1
  rw [hg1] at CB
  clear CA
  go_enter Try.func10, Try.ntmps10
  go_wp2_with fail
  refine (V1.out _).mono ?_
  rintro e w1 ⟨rfl, b1⟩
  have C1 := Lib.hid (CA1.out.below b1)
  have C2 := Lib.hid (CB.out.below b1)
  have B1 := Lib.hid (bel_trans bb.out b1)
  clear b1 V1 CA1 CB bb
  have y0 := C2.out.cell 0 rfl
  have y1 := C2.out.cell 1 rfl
  go_wp2_with fail
  refine (V2.out _).mono ?_
  rintro e w2 ⟨rfl, b2⟩
  have E1 := Lib.hid (C1.out.below b2)
  have E2 := Lib.hid (C2.out.below b2)
  have B2 := Lib.hid (bel_trans B1.out b2)
  clear b2 V2 C1 C2 B1 y0 y1
  have y0 := E1.out.cell 0 rfl
  have y1 := E1.out.cell 1 rfl
  have y2 := E2.out.cell 0 rfl
  have y3 := E2.out.cell 1 rfl
  go_wp2_with fail
  refine (PL.out _).mono ?_
  rintro e w3 ⟨rfl, b3⟩
  have B3 := Lib.hid (bel_trans B2.out b3)
  clear b3 E1 E2 B2 y0 y1 y2 y3
  go_wp2_with fail
  exact bodyPost_ret (v := .tuple #[.int .i64 N, .bool true]) (by simp [results, Try.results10, go_sem]) rfl ⟨rfl, B3.out⟩
end Go.Proofs.Ytiodbjfchfmlcaa
