/- Fractions' operations, walked. -/
import Derived.Test.YtiodbjfchfmlcaaFr
import Derived.Test.YtiodbjfchfmlcaaCells
namespace Go.Proofs.Ytiodbjfchfmlcaa
set_option linter.unusedVariables false
set_option linter.unusedSimpArgs false
set_option maxRecDepth 100000
open Go.RowKit Go.Deep
/-- A fraction as a value: a over D. -/
def FV (a D : Int) : Value := .agg #[.int .i64 (redN a D), .int .i64 (redD a D)]
/-- Small enough: nothing overflows. -/
structure Sm (a D : Int) : Prop where
  d1 : 1 ≤ D
  d2 : D ≤ 2097152
  a1 : -1099511627776 ≤ a
  a2 : a ≤ 1099511627776
theorem Sm.red {a D : Int} (h : Sm a D) : -1099511627776 ≤ redN a D ∧ redN a D ≤ 1099511627776 ∧ 1 ≤ redD a D ∧ redD a D ≤ 2097152 := by
  have r1 := red_bd (d := D) h.a1 h.a2
  have r2 := redD_bd (n := a) h.d1 h.d2
  exact ⟨r1.1, r1.2, r2.1, r2.2⟩
theorem plus_raw (a b c d : Int) (w : World) (a1 : -1099511627776 ≤ a) (a2 : a ≤ 1099511627776) (b1 : 1 ≤ b) (b2 : b ≤ 2097152) (c1 : -1099511627776 ≤ c) (c2 : c ≤ 1099511627776) (d1 : 1 ≤ d) (d2 : d ≤ 2097152) :
    Calls Try.prog 35 #[.agg #[.int .i64 a, .int .i64 b], .agg #[.int .i64 c, .int .i64 d]] w fun e w' => e = .returned (.agg #[.int .i64 (redN (a * d + c * b) (b * d)), .int .i64 (redD (a * d + c * b) (b * d))]) ∧ Below w.heap.size w w' := by
  have m1 := mul_bd a1 a2 d1 d2
  have m2 := mul_bd c1 c2 b1 b2
  have m3 := mul_bd (x := b) (M := 2097152) (by omega) b2 d1 d2
  have m4 := Int.mul_pos (a := b) (b := d) (by omega) (by omega)
  have W1 : IntKind.i64.wrap (a * d) = a * d := IntWalk.i64_in _ (by omega)
  have W2 : IntKind.i64.wrap (c * b) = c * b := IntWalk.i64_in _ (by omega)
  have W3 : IntKind.i64.wrap (b * d) = b * d := IntWalk.i64_in _ (by omega)
  have W4 : IntKind.i64.wrap (a * d + c * b) = a * d + c * b := IntWalk.i64_in _ (by omega)
  have FA := Lib.hid (fun W => fraction_any (a * d + c * b) (b * d) W (by omega) (by omega) (by omega) (by omega))
  clear m1 m2 m3 m4
  go_enter Try.func35, Try.ntmps35
  go_wp2_with fail
  refine (FA.out _).mono ?_
  rintro e w1 ⟨rfl, hb⟩
  have bb := bel_trans (bel_trans (bel_trans (bel_alloc w _) (bel_alloc _ _)) (bel_alloc _ _)) hb
  have CR := (Cs.new ((w.alloc (.cells #[.int .i64 a, .int .i64 b] 32)).alloc (.cells #[.int .i64 c, .int .i64 d] 32)) [.int .i64 0, .int .i64 0] 32).below hb
  have hz := hb.size
  clear hb
  obtain ⟨G, hG⟩ : ∃ x, (((w.alloc (.cells #[.int .i64 a, .int .i64 b] 32)).alloc (.cells #[.int .i64 c, .int .i64 d] 32))).heap.size = x := ⟨_, rfl⟩
  rw [hG] at CR
  have hG2 : w.heap.size + 1 + 1 = G := by rw [← hG]; simp
  have hG3 : w.heap.size + 2 = G := by rw [← hG]; simp
  have hwG : w.heap.size ≤ G := by omega
  clear hz hG
  have q0 := CR.cell 0 rfl
  have q1 := CR.cell 1 rfl
  have f0 := CR.free 0 rfl
  have f1 := CR.free 1 rfl
  have C2 := (CR.set 0 (.int .i64 (redN (a * d + c * b) (b * d))) (by simp)).set 1 (.int .i64 (redD (a * d + c * b) (b * d))) (by simp)
  have z0 := C2.cell 0 rfl
  have z1 := C2.cell 1 rfl
  clear CR C2
  go_wp2_with fail
  exact bodyPost_ret (v := .agg #[.int .i64 (redN (a * d + c * b) (b * d)), .int .i64 (redD (a * d + c * b) (b * d))]) (by simp [results, Try.results35, go_sem, z0, z1]) rfl ⟨rfl, (bb.setCell hwG _).setCell hwG _⟩
theorem plus_ok {a b D : Int} (h : Sm a D) (k : Sm b D) (w : World) :
    Calls Try.prog 35 #[FV a D, FV b D] w fun e w' => e = .returned (FV (a + b) D) ∧ Below w.heap.size w w' := by
  obtain ⟨x1, x2, x3, x4⟩ := h.red
  obtain ⟨y1, y2, y3, y4⟩ := k.red
  have := plus_raw (redN a D) (redD a D) (redN b D) (redD b D) w x1 x2 x3 x4 y1 y2 y3 y4
  rw [(red_plus h.d1).1, (red_plus h.d1).2] at this
  exact this
theorem minus_ok {x y D : Int} (h : Sm x D) (k : Sm y D) (w : World) :
    Calls Try.prog 40 #[FV x D, FV y D] w fun e w' => e = .returned (FV (x - y) D) ∧ Below w.heap.size w w' := by
  have k' : Sm (-y) D := ⟨k.d1, k.d2, by have := k.a2; omega, by have := k.a1; omega⟩
  have PL := Lib.hid (fun W => plus_ok h k' W)
  obtain ⟨n1, n2⟩ := red_neg (a := y) k.d1
  obtain ⟨x1, x2, x3, x4⟩ := h.red
  obtain ⟨y1, y2, y3, y4⟩ := k.red
  unfold FV at PL ⊢
  rw [n1, n2, ← Int.sub_eq_add_neg] at PL
  obtain ⟨a, ha⟩ : ∃ z, redN x D = z := ⟨_, rfl⟩
  obtain ⟨b, hb⟩ : ∃ z, redD x D = z := ⟨_, rfl⟩
  obtain ⟨c, hc⟩ : ∃ z, redN y D = z := ⟨_, rfl⟩
  obtain ⟨d, hd⟩ : ∃ z, redD y D = z := ⟨_, rfl⟩
  rw [ha, hb, hc, hd] at PL ⊢
  rw [hc] at y1 y2
  have W1 : IntKind.i64.wrap (-c) = -c := IntWalk.i64_in _ (by omega)
  clear n1 n2 x1 x2 x3 x4 y1 y2 y3 y4 ha hb hc hd k' h k
  go_enter Try.func40, Try.ntmps40
  go_wp2_with fail
  refine (PL.out _).mono ?_
  rintro e w1 ⟨rfl, hb⟩
  have bb := bel_trans (bel_trans (bel_trans (bel_alloc w _) (bel_alloc _ _)) (bel_alloc _ _)) hb
  have CR := (Cs.new ((w.alloc (.cells #[.int .i64 a, .int .i64 b] 32)).alloc (.cells #[.int .i64 c, .int .i64 d] 32)) [.int .i64 0, .int .i64 0] 32).below hb
  have hz := hb.size
  clear hb
  obtain ⟨G, hG⟩ : ∃ x, (((w.alloc (.cells #[.int .i64 a, .int .i64 b] 32)).alloc (.cells #[.int .i64 c, .int .i64 d] 32))).heap.size = x := ⟨_, rfl⟩
  rw [hG] at CR
  have hG2 : w.heap.size + 1 + 1 = G := by rw [← hG]; simp
  have hG3 : w.heap.size + 2 = G := by rw [← hG]; simp
  have hwG : w.heap.size ≤ G := by omega
  clear hz hG
  have q0 := CR.cell 0 rfl
  have q1 := CR.cell 1 rfl
  have f0 := CR.free 0 rfl
  have f1 := CR.free 1 rfl
  have C2 := (CR.set 0 (.int .i64 (redN (x - y) D)) (by simp)).set 1 (.int .i64 (redD (x - y) D)) (by simp)
  have z0 := C2.cell 0 rfl
  have z1 := C2.cell 1 rfl
  clear CR C2
  go_wp2_with fail
  exact bodyPost_ret (v := .agg #[.int .i64 (redN (x - y) D), .int .i64 (redD (x - y) D)]) (by simp [results, Try.results40, go_sem, z0, z1]) rfl ⟨rfl, (bb.setCell hwG _).setCell hwG _⟩
theorem over_ok {x D m : Int} (h : Sm x D) (hm : 1 ≤ m) (hm2 : m ≤ 1000) (w : World) :
    Calls Try.prog 36 #[FV x D, .agg #[.int .i64 m, .int .i64 1]] w fun e w' => e = .returned (FV x (D * m)) ∧ Below w.heap.size w w' := by
  obtain ⟨x1, x2, x3, x4⟩ := h.red
  have m1 := mul_bd (x := redD x D) (y := m) (M := 2097152) (E := 1000) (by omega) x4 hm hm2
  have m2 := Int.mul_pos (a := redD x D) (b := m) (by omega) (by omega)
  have FA := Lib.hid (fun W => fraction_any (redN x D * 1) (redD x D * m) W (by omega) (by omega) (by omega) (by omega))
  obtain ⟨r1, r2⟩ := red_over (a := x) h.d1 hm
  rw [r1, r2] at FA
  rw [Int.mul_one] at FA
  have W1 : IntKind.i64.wrap (redN x D) = redN x D := IntWalk.i64_in _ (by omega)
  have W2 : IntKind.i64.wrap (redD x D * m) = redD x D * m := IntWalk.i64_in _ (by omega)
  have d0 := decide_eq_false (show ¬ m < 0 by omega)
  unfold FV
  obtain ⟨a, ha⟩ : ∃ z, redN x D = z := ⟨_, rfl⟩
  obtain ⟨b, hb⟩ : ∃ z, redD x D = z := ⟨_, rfl⟩
  rw [ha, hb] at FA ⊢
  rw [ha] at W1
  rw [hb] at W2
  clear r1 r2 m1 m2 x1 x2 x3 x4 ha hb h
  go_enter Try.func36, Try.ntmps36
  go_wp2_with fail
  refine (FA.out _).mono ?_
  rintro e w1 ⟨rfl, hb⟩
  have bb := bel_trans (bel_trans (bel_trans (bel_alloc w _) (bel_alloc _ _)) (bel_alloc _ _)) hb
  have CR := (Cs.new ((w.alloc (.cells #[.int .i64 a, .int .i64 b] 32)).alloc (.cells #[.int .i64 m, .int .i64 1] 32)) [.int .i64 0, .int .i64 0] 32).below hb
  have hz := hb.size
  clear hb
  obtain ⟨G, hG⟩ : ∃ x, (((w.alloc (.cells #[.int .i64 a, .int .i64 b] 32)).alloc (.cells #[.int .i64 m, .int .i64 1] 32))).heap.size = x := ⟨_, rfl⟩
  rw [hG] at CR
  have hG2 : w.heap.size + 1 + 1 = G := by rw [← hG]; simp
  have hG3 : w.heap.size + 2 = G := by rw [← hG]; simp
  have hwG : w.heap.size ≤ G := by omega
  clear hz hG
  have q0 := CR.cell 0 rfl
  have q1 := CR.cell 1 rfl
  have f0 := CR.free 0 rfl
  have f1 := CR.free 1 rfl
  have C2 := (CR.set 0 (.int .i64 (redN x (D * m))) (by simp)).set 1 (.int .i64 (redD x (D * m))) (by simp)
  have z0 := C2.cell 0 rfl
  have z1 := C2.cell 1 rfl
  clear CR C2
  go_wp2_with fail
  exact bodyPost_ret (v := .agg #[.int .i64 (redN x (D * m)), .int .i64 (redD x (D * m))]) (by simp [results, Try.results36, go_sem, z0, z1]) rfl ⟨rfl, (bb.setCell hwG _).setCell hwG _⟩
def cmpI (a b : Int) : Int := if a < b then -1 else if b < a then 1 else 0
theorem compare_ok {x y D : Int} (h : Sm x D) (k : Sm y D) (w : World) :
    Calls Try.prog 31 #[FV x D, FV y D] w fun e w' => e = .returned (.int .i64 (cmpI x y)) ∧ Below w.heap.size w w' := by
  obtain ⟨x1, x2, x3, x4⟩ := h.red
  obtain ⟨y1, y2, y3, y4⟩ := k.red
  have l1 := red_lt (a := x) (b := y) h.d1
  have l2 := red_lt (a := y) (b := x) h.d1
  unfold FV
  obtain ⟨a, ha⟩ : ∃ z, redN x D = z := ⟨_, rfl⟩
  obtain ⟨b, hb⟩ : ∃ z, redD x D = z := ⟨_, rfl⟩
  obtain ⟨c, hc⟩ : ∃ z, redN y D = z := ⟨_, rfl⟩
  obtain ⟨d, hd⟩ : ∃ z, redD y D = z := ⟨_, rfl⟩
  rw [ha] at x1 x2
  rw [hb] at x3 x4
  rw [hc] at y1 y2
  rw [hd] at y3 y4
  rw [ha, hb, hc, hd] at l1 l2 ⊢
  have m1 := mul_bd x1 x2 y3 y4
  have m2 := mul_bd y1 y2 x3 x4
  have W1 : IntKind.i64.wrap (a * d) = a * d := IntWalk.i64_in _ (by omega)
  have W2 : IntKind.i64.wrap (c * b) = c * b := IntWalk.i64_in _ (by omega)
  have b0 := bel_trans (bel_alloc w (.cells #[.int .i64 a, .int .i64 b] 32)) (bel_alloc _ (.cells #[.int .i64 c, .int .i64 d] 32))
  have BB := Lib.hid b0
  rcases Int.lt_trichotomy x y with hlt | heq | hgt
  · have d1 := decide_eq_true (l1.2 hlt)
    have R := Lib.hid (show cmpI x y = -1 from if_pos hlt)
    clear l1 l2 m1 m2 hlt b0
    go_enter Try.func31, Try.ntmps31
    go_wp2_with fail
    go_quiet (fail)
    go_wp2_with fail
    go_ret
    exact ⟨by first | rfl | (simp [R.out]) | (rw [R.out]; rfl), below_drewN BB.out _⟩
  · have d1 := decide_eq_false (show ¬ a * d < c * b from fun hh => by have := l1.1 hh; omega)
    have d2 := decide_eq_false (show ¬ c * b < a * d from fun hh => by have := l2.1 hh; omega)
    have R := Lib.hid (show cmpI x y = 0 by unfold cmpI; rw [if_neg (by omega), if_neg (by omega)])
    clear l1 l2 m1 m2 heq b0
    go_enter Try.func31, Try.ntmps31
    go_wp2_with fail
    go_quiet (fail)
    go_wp2_with fail
    go_ret
    exact ⟨by first | rfl | (simp [R.out]) | (rw [R.out]; rfl), below_drewN BB.out _⟩
  · have d1 := decide_eq_false (show ¬ a * d < c * b from fun hh => by have := l1.1 hh; omega)
    have d2 := decide_eq_true (l2.2 hgt)
    have R := Lib.hid (show cmpI x y = 1 by unfold cmpI; rw [if_neg (by omega), if_pos hgt])
    clear l1 l2 m1 m2 hgt b0
    go_enter Try.func31, Try.ntmps31
    go_wp2_with fail
    go_quiet (fail)
    go_wp2_with fail
    go_ret
    exact ⟨by first | rfl | (simp [R.out]) | (rw [R.out]; rfl), below_drewN BB.out _⟩
end Go.Proofs.Ytiodbjfchfmlcaa
