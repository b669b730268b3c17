/- The laws' helpers on deeds: copy, size, comparison. -/
import Derived.Test.YtcoladhppbknnaaDeed5
namespace Go.Proofs.Ytcoladhppbknnaa
set_option linter.unusedVariables false
set_option linter.unusedSimpArgs false
set_option maxRecDepth 100000
open Go.RowKit Go.Deep
theorem OwnI.farD {w : World} {base : Nat} {A : Option Addr} {n c : Nat} {zs : List Int} (h : OwnI w base A n c zs) {g : Nat} (hg : g < base) (j : Nat) (u : Value) : OwnI (w.setCell ⟨g, j, none⟩ u) base A n c zs := by
  refine h.kept (row := some g) ⟨rfl, rfl, rfl, by simp [World.setCell], fun k _ hk => heap_setCell_other w ⟨g, j, none⟩ k u (fun e => hk (by simp [e]))⟩ ?_
  cases hv : (Value.slice A n c).ownBlock with
  | none => exact .inl rfl
  | some b =>
    refine .inr fun e => ?_
    have := (h.block b hv).1
    injection e with e
    omega
theorem OwnR.farD {t s : Nat} {w : World} {base : Nat} {A : Option Addr} {n c : Nat} {rs : List (List Value)} (h : OwnR t s w base A n c rs) {g : Nat} (hg : g < base) (j : Nat) (u : Value) : OwnR t s (w.setCell ⟨g, j, none⟩ u) base A n c rs := by
  refine h.kept (row := some g) ⟨rfl, rfl, rfl, by simp [World.setCell], fun k _ hk => heap_setCell_other w ⟨g, j, none⟩ k u (fun e => hk (by simp [e]))⟩ ?_
  cases hv : (Value.slice A n c).ownBlock with
  | none => exact .inl rfl
  | some b =>
    refine .inr fun e => ?_
    have := (h.block b hv).1
    injection e with e
    omega
set_option maxHeartbeats 1000000 in
theorem toDeed_any (kd mb : Int) (tA : Option Addr) (tc : Nat) (ts : List Int) (ti : ByteArray) (vt : Int) (pA : Option Addr) (pc : Nat) (es : List Ed) (fr un cl : Int) (w : World) (hT : Ints .i64 w tA ts.length tc ts) (hP : Eds w pA es.length pc es) (ht : ts.length ≤ 1048576) (hp : es.length ≤ 1048576) :
    Calls Try.prog 10 #[.agg #[.int .i64 kd, .int .i64 mb, .slice tA ts.length tc, .string ti, .int .i64 vt, .slice pA es.length pc, .int .i64 fr, .int .i64 un, .int .i64 cl]] w fun x w' => ∃ A' c' B' d', x = .returned (.agg #[.int .i64 kd, .int .i64 mb, .slice A' ts.length c', .string ti, .int .i64 vt, .slice B' es.length d', .int .i64 fr, .int .i64 un, .int .i64 cl]) ∧ Ints .i64 w' A' ts.length c' ts ∧ Eds w' B' es.length d' es ∧ Below w.heap.size w w' := by
  have HT := Lib.hid hT
  have HP := Lib.hid hP
  have t64 := hT.short
  have p64 := hP.short
  clear hT hP
  have b1 := bel_alloc w (.cells #[.int .i64 kd, .int .i64 mb, .slice tA ts.length tc, .string ti, .int .i64 vt, .slice pA es.length pc, .int .i64 fr, .int .i64 un, .int .i64 cl] 25)
  have b2 := bel_alloc (w.alloc (.cells #[.int .i64 kd, .int .i64 mb, .slice tA ts.length tc, .string ti, .int .i64 vt, .slice pA es.length pc, .int .i64 fr, .int .i64 un, .int .i64 cl] 25)) (.cells #[.int .i64 0, .int .i64 0, .slice none 0 0, .string { data := #[] }, .int .i64 0, .slice none 0 0, .int .i64 0, .int .i64 0, .int .i64 0] 30)
  have b3 := bel_alloc ((w.alloc (.cells #[.int .i64 kd, .int .i64 mb, .slice tA ts.length tc, .string ti, .int .i64 vt, .slice pA es.length pc, .int .i64 fr, .int .i64 un, .int .i64 cl] 25)).alloc (.cells #[.int .i64 0, .int .i64 0, .slice none 0 0, .string { data := #[] }, .int .i64 0, .slice none 0 0, .int .i64 0, .int .i64 0, .int .i64 0] 30)) (.cells #[.int .i64 kd, .int .i64 mb, .slice none 0 0, .string { data := #[] }, .int .i64 0, .slice none 0 0, .int .i64 0, .int .i64 0, .int .i64 0] 30)
  have C := ((Cs.new w [.int .i64 kd, .int .i64 mb, .slice tA ts.length tc, .string ti, .int .i64 vt, .slice pA es.length pc, .int .i64 fr, .int .i64 un, .int .i64 cl] 25).below b2).below b3
  have D := (Cs.new (w.alloc (.cells #[.int .i64 kd, .int .i64 mb, .slice tA ts.length tc, .string ti, .int .i64 vt, .slice pA es.length pc, .int .i64 fr, .int .i64 un, .int .i64 cl] 25)) [.int .i64 0, .int .i64 0, .slice none 0 0, .string { data := #[] }, .int .i64 0, .slice none 0 0, .int .i64 0, .int .i64 0, .int .i64 0] 30).below b3
  have E := Cs.new ((w.alloc (.cells #[.int .i64 kd, .int .i64 mb, .slice tA ts.length tc, .string ti, .int .i64 vt, .slice pA es.length pc, .int .i64 fr, .int .i64 un, .int .i64 cl] 25)).alloc (.cells #[.int .i64 0, .int .i64 0, .slice none 0 0, .string { data := #[] }, .int .i64 0, .slice none 0 0, .int .i64 0, .int .i64 0, .int .i64 0] 30)) [.int .i64 kd, .int .i64 mb, .slice none 0 0, .string { data := #[] }, .int .i64 0, .slice none 0 0, .int .i64 0, .int .i64 0, .int .i64 0] 30
  have hs1 : (w.alloc (.cells #[.int .i64 kd, .int .i64 mb, .slice tA ts.length tc, .string ti, .int .i64 vt, .slice pA es.length pc, .int .i64 fr, .int .i64 un, .int .i64 cl] 25)).heap.size = w.heap.size + 1 := by simp
  have hs2 : ((w.alloc (.cells #[.int .i64 kd, .int .i64 mb, .slice tA ts.length tc, .string ti, .int .i64 vt, .slice pA es.length pc, .int .i64 fr, .int .i64 un, .int .i64 cl] 25)).alloc (.cells #[.int .i64 0, .int .i64 0, .slice none 0 0, .string { data := #[] }, .int .i64 0, .slice none 0 0, .int .i64 0, .int .i64 0, .int .i64 0] 30)).heap.size = w.heap.size + 1 + 1 := by simp
  rw [hs1] at D
  rw [hs2] at E
  have bz := bel_trans b1 (bel_trans b2 b3)
  go_enter Try.func10, Try.ntmps10
  go_wp2_with fail
  obtain ⟨w3, hw3⟩ : ∃ x, (((w.alloc (.cells #[.int .i64 kd, .int .i64 mb, .slice tA ts.length tc, .string ti, .int .i64 vt, .slice pA es.length pc, .int .i64 fr, .int .i64 un, .int .i64 cl] 25)).alloc (.cells #[.int .i64 0, .int .i64 0, .slice none 0 0, .string { data := #[] }, .int .i64 0, .slice none 0 0, .int .i64 0, .int .i64 0, .int .i64 0] 30)).alloc (.cells #[.int .i64 kd, .int .i64 mb, .slice none 0 0, .string { data := #[] }, .int .i64 0, .slice none 0 0, .int .i64 0, .int .i64 0, .int .i64 0] 30)) = x := ⟨_, rfl⟩
  rw [hw3] at C D E bz
  rw [hw3]
  clear hw3 b1 b2 b3 hs1 hs2
  refine (toInt64S_any tA ts.length tc ts _ (HT.out.below bz) ht).mono ?_
  rintro e w4 ⟨A', c', rfl, o1, b4⟩
  have CA := Lib.hid (C.below b4)
  have DA := Lib.hid (D.below b4)
  have EA := Lib.hid (E.below b4)
  have BA := Lib.hid (bel_trans bz b4)
  have OA := Lib.hid o1
  have hO := E.1
  clear C D E bz b4 o1
  have c3 := CA.out.cell 3 rfl
  have c4 := CA.out.cell 4 rfl
  have c5 := CA.out.cell 5 rfl
  have e2 := EA.out.cell 2 rfl
  have e3 := EA.out.cell 3 rfl
  have e4 := EA.out.cell 4 rfl
  have f2 := EA.out.free 2 rfl
  have f3 := EA.out.free 3 rfl
  have f4 := EA.out.free 4 rfl
  go_wp2_with fail
  have hlt : w.heap.size + 1 + 1 < w3.heap.size := hO
  have C5 := (((CA.out.far (g' := w.heap.size + 1 + 1) (by omega) 2 (.slice A' ts.length c')).far (g' := w.heap.size + 1 + 1) (by omega) 3 (.string ti)).far (g' := w.heap.size + 1 + 1) (by omega) 4 (.int .i64 vt))
  have D5 := (((DA.out.far (g' := w.heap.size + 1 + 1) (by omega) 2 (.slice A' ts.length c')).far (g' := w.heap.size + 1 + 1) (by omega) 3 (.string ti)).far (g' := w.heap.size + 1 + 1) (by omega) 4 (.int .i64 vt))
  have E5 := (((EA.out.set 2 (.slice A' ts.length c') (by simp)).set 3 (.string ti) (by simp)).set 4 (.int .i64 vt) (by simp))
  have B5 := (((BA.out.setCell (p := ⟨w.heap.size + 1 + 1, 2, none⟩) (show w.heap.size ≤ w.heap.size + 1 + 1 by omega) (.slice A' ts.length c')).setCell (p := ⟨w.heap.size + 1 + 1, 3, none⟩) (show w.heap.size ≤ w.heap.size + 1 + 1 by omega) (.string ti)).setCell (p := ⟨w.heap.size + 1 + 1, 4, none⟩) (show w.heap.size ≤ w.heap.size + 1 + 1 by omega) (.int .i64 vt))
  have O5 := (((OA.out.farD (g := w.heap.size + 1 + 1) hlt 2 (.slice A' ts.length c')).farD (g := w.heap.size + 1 + 1) hlt 3 (.string ti)).farD (g := w.heap.size + 1 + 1) hlt 4 (.int .i64 vt))
  obtain ⟨s5, hs5⟩ : ∃ x, (((w4.setCell ⟨w.heap.size + 1 + 1, 2, none⟩ (.slice A' ts.length c')).setCell ⟨w.heap.size + 1 + 1, 3, none⟩ (.string ti)).setCell ⟨w.heap.size + 1 + 1, 4, none⟩ (.int .i64 vt)) = x := ⟨_, rfl⟩
  rw [hs5] at C5 D5 E5 B5 O5
  rw [hs5]
  clear hs5 c3 c4 c5 e2 e3 e4 f2 f3 f4
  refine (toEditS_any pA es.length pc es _ (HP.out.below B5) hp).mono ?_
  rintro e w6 ⟨B', d', rfl, o2, b6⟩
  have C6 := C5.below b6
  have D6 := D5.below b6
  have E6 := E5.below b6
  have B6 := bel_trans B5 b6
  have O6 := O5.below b6
  have hlt5 : w.heap.size + 1 + 1 < s5.heap.size := E5.1
  have q7 := hlt
  clear C5 D5 E5 B5 O5 b6 hO hlt
  have c6 := C6.cell 6 rfl
  have c7 := C6.cell 7 rfl
  have c8 := C6.cell 8 rfl
  have e0 := E6.cell 0 rfl
  have e1 := E6.cell 1 rfl
  have e2 := E6.cell 2 rfl
  have e3 := E6.cell 3 rfl
  have e4 := E6.cell 4 rfl
  have e5 := E6.cell 5 rfl
  have e6 := E6.cell 6 rfl
  have e7 := E6.cell 7 rfl
  have e8 := E6.cell 8 rfl
  have f5 := E6.free 5 rfl
  have f6 := E6.free 6 rfl
  have f7 := E6.free 7 rfl
  have f8 := E6.free 8 rfl
  have d0 := D6.cell 0 rfl
  have g0 := D6.free 0 rfl
  have d1 := D6.cell 1 rfl
  have g1 := D6.free 1 rfl
  have d2 := D6.cell 2 rfl
  have g2 := D6.free 2 rfl
  have d3 := D6.cell 3 rfl
  have g3 := D6.free 3 rfl
  have d4 := D6.cell 4 rfl
  have g4 := D6.free 4 rfl
  have d5 := D6.cell 5 rfl
  have g5 := D6.free 5 rfl
  have d6 := D6.cell 6 rfl
  have g6 := D6.free 6 rfl
  have d7 := D6.cell 7 rfl
  have g7 := D6.free 7 rfl
  have d8 := D6.cell 8 rfl
  have g8 := D6.free 8 rfl
  have D9 := Lib.hid (((((((((((((D6.far (g' := w.heap.size + 1 + 1) (by omega) 5 (.slice B' es.length d')).far (g' := w.heap.size + 1 + 1) (by omega) 6 (.int .i64 fr)).far (g' := w.heap.size + 1 + 1) (by omega) 7 (.int .i64 un)).far (g' := w.heap.size + 1 + 1) (by omega) 8 (.int .i64 cl)).set 0 (.int .i64 kd) (by simp)).set 1 (.int .i64 mb) (by simp)).set 2 (.slice A' ts.length c') (by simp)).set 3 (.string ti) (by simp)).set 4 (.int .i64 vt) (by simp)).set 5 (.slice B' es.length d') (by simp)).set 6 (.int .i64 fr) (by simp)).set 7 (.int .i64 un) (by simp)).set 8 (.int .i64 cl) (by simp))
  have B9 := Lib.hid (((((((((((((B6.setCell (p := ⟨w.heap.size + 1 + 1, 5, none⟩) (show w.heap.size ≤ w.heap.size + 1 + 1 by omega) (.slice B' es.length d')).setCell (p := ⟨w.heap.size + 1 + 1, 6, none⟩) (show w.heap.size ≤ w.heap.size + 1 + 1 by omega) (.int .i64 fr)).setCell (p := ⟨w.heap.size + 1 + 1, 7, none⟩) (show w.heap.size ≤ w.heap.size + 1 + 1 by omega) (.int .i64 un)).setCell (p := ⟨w.heap.size + 1 + 1, 8, none⟩) (show w.heap.size ≤ w.heap.size + 1 + 1 by omega) (.int .i64 cl)).setCell (p := ⟨w.heap.size + 1, 0, none⟩) (show w.heap.size ≤ w.heap.size + 1 by omega) (.int .i64 kd)).setCell (p := ⟨w.heap.size + 1, 1, none⟩) (show w.heap.size ≤ w.heap.size + 1 by omega) (.int .i64 mb)).setCell (p := ⟨w.heap.size + 1, 2, none⟩) (show w.heap.size ≤ w.heap.size + 1 by omega) (.slice A' ts.length c')).setCell (p := ⟨w.heap.size + 1, 3, none⟩) (show w.heap.size ≤ w.heap.size + 1 by omega) (.string ti)).setCell (p := ⟨w.heap.size + 1, 4, none⟩) (show w.heap.size ≤ w.heap.size + 1 by omega) (.int .i64 vt)).setCell (p := ⟨w.heap.size + 1, 5, none⟩) (show w.heap.size ≤ w.heap.size + 1 by omega) (.slice B' es.length d')).setCell (p := ⟨w.heap.size + 1, 6, none⟩) (show w.heap.size ≤ w.heap.size + 1 by omega) (.int .i64 fr)).setCell (p := ⟨w.heap.size + 1, 7, none⟩) (show w.heap.size ≤ w.heap.size + 1 by omega) (.int .i64 un)).setCell (p := ⟨w.heap.size + 1, 8, none⟩) (show w.heap.size ≤ w.heap.size + 1 by omega) (.int .i64 cl))
  have O9 := Lib.hid (((((((((((((O6.farD (g := w.heap.size + 1 + 1) (by first | omega | exact q7) 5 (.slice B' es.length d')).farD (g := w.heap.size + 1 + 1) (by first | omega | exact q7) 6 (.int .i64 fr)).farD (g := w.heap.size + 1 + 1) (by first | omega | exact q7) 7 (.int .i64 un)).farD (g := w.heap.size + 1 + 1) (by first | omega | exact q7) 8 (.int .i64 cl)).farD (g := w.heap.size + 1) (by first | omega | exact q7) 0 (.int .i64 kd)).farD (g := w.heap.size + 1) (by first | omega | exact q7) 1 (.int .i64 mb)).farD (g := w.heap.size + 1) (by first | omega | exact q7) 2 (.slice A' ts.length c')).farD (g := w.heap.size + 1) (by first | omega | exact q7) 3 (.string ti)).farD (g := w.heap.size + 1) (by first | omega | exact q7) 4 (.int .i64 vt)).farD (g := w.heap.size + 1) (by first | omega | exact q7) 5 (.slice B' es.length d')).farD (g := w.heap.size + 1) (by first | omega | exact q7) 6 (.int .i64 fr)).farD (g := w.heap.size + 1) (by first | omega | exact q7) 7 (.int .i64 un)).farD (g := w.heap.size + 1) (by first | omega | exact q7) 8 (.int .i64 cl))
  have P9 := Lib.hid (((((((((((((o2.farD (g := w.heap.size + 1 + 1) (by omega) 5 (.slice B' es.length d')).farD (g := w.heap.size + 1 + 1) (by omega) 6 (.int .i64 fr)).farD (g := w.heap.size + 1 + 1) (by omega) 7 (.int .i64 un)).farD (g := w.heap.size + 1 + 1) (by omega) 8 (.int .i64 cl)).farD (g := w.heap.size + 1) (by omega) 0 (.int .i64 kd)).farD (g := w.heap.size + 1) (by omega) 1 (.int .i64 mb)).farD (g := w.heap.size + 1) (by omega) 2 (.slice A' ts.length c')).farD (g := w.heap.size + 1) (by omega) 3 (.string ti)).farD (g := w.heap.size + 1) (by omega) 4 (.int .i64 vt)).farD (g := w.heap.size + 1) (by omega) 5 (.slice B' es.length d')).farD (g := w.heap.size + 1) (by omega) 6 (.int .i64 fr)).farD (g := w.heap.size + 1) (by omega) 7 (.int .i64 un)).farD (g := w.heap.size + 1) (by omega) 8 (.int .i64 cl))
  clear C6 D6 E6 B6 O6 o2
  go_wp2_with fail
  obtain ⟨w9, hw9⟩ : ∃ x, (((((((((((((w6.setCell ⟨w.heap.size + 1 + 1, 5, none⟩ (.slice B' es.length d')).setCell ⟨w.heap.size + 1 + 1, 6, none⟩ (.int .i64 fr)).setCell ⟨w.heap.size + 1 + 1, 7, none⟩ (.int .i64 un)).setCell ⟨w.heap.size + 1 + 1, 8, none⟩ (.int .i64 cl)).setCell ⟨w.heap.size + 1, 0, none⟩ (.int .i64 kd)).setCell ⟨w.heap.size + 1, 1, none⟩ (.int .i64 mb)).setCell ⟨w.heap.size + 1, 2, none⟩ (.slice A' ts.length c')).setCell ⟨w.heap.size + 1, 3, none⟩ (.string ti)).setCell ⟨w.heap.size + 1, 4, none⟩ (.int .i64 vt)).setCell ⟨w.heap.size + 1, 5, none⟩ (.slice B' es.length d')).setCell ⟨w.heap.size + 1, 6, none⟩ (.int .i64 fr)).setCell ⟨w.heap.size + 1, 7, none⟩ (.int .i64 un)).setCell ⟨w.heap.size + 1, 8, none⟩ (.int .i64 cl)) = x := ⟨_, rfl⟩
  rw [hw9] at D9 B9 O9 P9 ⊢
  clear hw9
  have x0 := D9.out.cell 0 (v := .int .i64 kd) (by simp)
  have x1 := D9.out.cell 1 (v := .int .i64 mb) (by simp)
  have x2 := D9.out.cell 2 (v := .slice A' ts.length c') (by simp)
  have x3 := D9.out.cell 3 (v := .string ti) (by simp)
  have x4 := D9.out.cell 4 (v := .int .i64 vt) (by simp)
  have x5 := D9.out.cell 5 (v := .slice B' es.length d') (by simp)
  have x6 := D9.out.cell 6 (v := .int .i64 fr) (by simp)
  have x7 := D9.out.cell 7 (v := .int .i64 un) (by simp)
  have x8 := D9.out.cell 8 (v := .int .i64 cl) (by simp)
  exact bodyPost_ret (v := .agg #[.int .i64 kd, .int .i64 mb, .slice A' ts.length c', .string ti, .int .i64 vt, .slice B' es.length d', .int .i64 fr, .int .i64 un, .int .i64 cl]) (by simp [results, Try.results10, go_sem, x0, x1, x2, x3, x4, x5, x6, x7, x8]) rfl ⟨A', c', B', d', rfl, O9.out.ints, P9.out.eds HP.out.2, B9.out⟩
theorem szDeed_any (kd mb : Int) (tA : Option Addr) (tc : Nat) (ts : List Int) (ti : ByteArray) (vt : Int) (pA : Option Addr) (pc : Nat) (es : List Ed) (fr un cl : Int) (w : World) (hT : Ints .i64 w tA ts.length tc ts) (hP : Eds w pA es.length pc es) (hs : ti.size ≤ 9223372036854775807) :
    Calls Try.prog 8 #[.agg #[.int .i64 kd, .int .i64 mb, .slice tA ts.length tc, .string ti, .int .i64 vt, .slice pA es.length pc, .int .i64 fr, .int .i64 un, .int .i64 cl], .int .i64 1048576] w fun x w' => ∃ r : Int, x = .returned (.int .i64 r) ∧ (r < 0 ∨ (ts.length ≤ 1048576 ∧ es.length ≤ 1048576)) ∧ Below w.heap.size w w' := by
  have t64 := hT.short
  have p64 := hP.short
  have ba := bel_alloc w (.cells #[.int .i64 kd, .int .i64 mb, .slice tA ts.length tc, .string ti, .int .i64 vt, .slice pA es.length pc, .int .i64 fr, .int .i64 un, .int .i64 cl] 25)
  have C := Lib.hid (Cs.new w [.int .i64 kd, .int .i64 mb, .slice tA ts.length tc, .string ti, .int .i64 vt, .slice pA es.length pc, .int .i64 fr, .int .i64 un, .int .i64 cl] 25)
  have HP := Lib.hid (hP.below ba)
  have BA := Lib.hid ba
  clear hP ba
  have y2 := C.out.cell 2 rfl
  have y3 := C.out.cell 3 rfl
  have y5 := C.out.cell 5 rfl
  go_enter Try.func8, Try.ntmps8
  go_wp2_with fail
  refine (szI_st tA ts.length tc 1048576 _ t64 (by omega) (by omega)).mono ?_
  rintro e w9 ⟨rfl, rfl⟩
  by_cases q1 : (1048576 : Int) < ts.length
  · rw [if_pos q1]
    go_wp2_with fail
    go_ret
    exact ⟨-1, rfl, .inl (by omega), BA.out⟩
  rw [if_neg q1]
  have d1 := decide_eq_false (show ¬ (1048576 : Int) - (ts.length : Int) < 0 by omega)
  have w2 : IntKind.i64.wrap ((1048576 : Int) - (ts.length : Int) - (ti.size : Int)) = 1048576 - ts.length - ti.size := IntWalk.i64_in _ (by omega)
  by_cases q2 : (1048576 : Int) - (ts.length : Int) - (ti.size : Int) < 0
  · have d2 := decide_eq_true q2
    go_wp2_with fail
    go_ret
    exact ⟨-1, rfl, .inl (by omega), BA.out⟩
  have d2 := decide_eq_false q2
  go_wp2_with fail
  refine (szEditS_any pA es.length pc es _ (by omega) (by omega) _ HP.out).mono ?_
  rintro e w9 ⟨r, rfl, hr, b9⟩
  have BE := Lib.hid (bel_trans BA.out b9)
  clear b9
  by_cases q3 : r < 0
  · have d3 := decide_eq_true q3
    go_wp2_with fail
    go_ret
    exact ⟨-1, rfl, .inl (by omega), BE.out⟩
  have d3 := decide_eq_false q3
  go_wp2_with fail
  go_ret
  exact ⟨r, rfl, .inr ⟨by omega, by omega⟩, BE.out⟩
set_option maxHeartbeats 1000000 in
theorem eqDeed_same (kd mb : Int) (tA : Option Addr) (tc : Nat) (ts : List Int) (ti : ByteArray) (vt : Int) (pA : Option Addr) (pc : Nat) (es : List Ed) (fr un cl : Int) (tB : Option Addr) (td : Nat) (pB : Option Addr) (pd : Nat) (w : World) (hT : Ints .i64 w tA ts.length tc ts) (hP : Eds w pA es.length pc es) (kT : Ints .i64 w tB ts.length td ts) (kP : Eds w pB es.length pd es) :
    Calls Try.prog 12 #[.agg #[.int .i64 kd, .int .i64 mb, .slice tA ts.length tc, .string ti, .int .i64 vt, .slice pA es.length pc, .int .i64 fr, .int .i64 un, .int .i64 cl], .agg #[.int .i64 kd, .int .i64 mb, .slice tB ts.length td, .string ti, .int .i64 vt, .slice pB es.length pd, .int .i64 fr, .int .i64 un, .int .i64 cl]] w fun x w' => x = .returned (.bool true) ∧ Below w.heap.size w w' := by
  have b1 := bel_alloc w (.cells #[.int .i64 kd, .int .i64 mb, .slice tA ts.length tc, .string ti, .int .i64 vt, .slice pA es.length pc, .int .i64 fr, .int .i64 un, .int .i64 cl] 30)
  have b2 := bel_alloc (w.alloc (.cells #[.int .i64 kd, .int .i64 mb, .slice tA ts.length tc, .string ti, .int .i64 vt, .slice pA es.length pc, .int .i64 fr, .int .i64 un, .int .i64 cl] 30)) (.cells #[.int .i64 kd, .int .i64 mb, .slice tB ts.length td, .string ti, .int .i64 vt, .slice pB es.length pd, .int .i64 fr, .int .i64 un, .int .i64 cl] 30)
  have C := (Cs.new w [.int .i64 kd, .int .i64 mb, .slice tA ts.length tc, .string ti, .int .i64 vt, .slice pA es.length pc, .int .i64 fr, .int .i64 un, .int .i64 cl] 30).below b2
  have D := Cs.new (w.alloc (.cells #[.int .i64 kd, .int .i64 mb, .slice tA ts.length tc, .string ti, .int .i64 vt, .slice pA es.length pc, .int .i64 fr, .int .i64 un, .int .i64 cl] 30)) [.int .i64 kd, .int .i64 mb, .slice tB ts.length td, .string ti, .int .i64 vt, .slice pB es.length pd, .int .i64 fr, .int .i64 un, .int .i64 cl] 30
  have hs1 : (w.alloc (.cells #[.int .i64 kd, .int .i64 mb, .slice tA ts.length tc, .string ti, .int .i64 vt, .slice pA es.length pc, .int .i64 fr, .int .i64 un, .int .i64 cl] 30)).heap.size = w.heap.size + 1 := by simp
  rw [hs1] at D
  have bz := bel_trans b1 b2
  have HT := Lib.hid (hT.below bz)
  have HP := Lib.hid (hP.below bz)
  have KT := Lib.hid (kT.below bz)
  have KP := Lib.hid (kP.below bz)
  have BZ := Lib.hid bz
  clear hT hP kT kP b1 b2 hs1 bz
  have c0 := C.cell 0 rfl
  have d0 := D.cell 0 rfl
  have c1 := C.cell 1 rfl
  have d1 := D.cell 1 rfl
  have c2 := C.cell 2 rfl
  have d2 := D.cell 2 rfl
  have c3 := C.cell 3 rfl
  have d3 := D.cell 3 rfl
  have c4 := C.cell 4 rfl
  have d4 := D.cell 4 rfl
  have c5 := C.cell 5 rfl
  have d5 := D.cell 5 rfl
  have c6 := C.cell 6 rfl
  have d6 := D.cell 6 rfl
  have c7 := C.cell 7 rfl
  have d7 := D.cell 7 rfl
  have c8 := C.cell 8 rfl
  have d8 := D.cell 8 rfl
  have HC := Lib.hid C
  have HD := Lib.hid D
  clear C D
  have e0 : (kd != kd) = false := by simp
  have e1 : (mb != mb) = false := by simp
  have e3 : (ti.toList == ti.toList) = true := by simp
  have e4 : (vt != vt) = false := by simp
  have e6 : (fr != fr) = false := by simp
  have e7 : (un != un) = false := by simp
  have e8 : (cl != cl) = false := by simp
  go_enter Try.func12, Try.ntmps12
  go_wp2_with fail
  refine (eqInt64S_any tA ts.length tc ts tB ts.length td ts _ HT.out KT.out).mono ?_
  rintro e w4 ⟨rfl, b4⟩
  rw [show decide (ts = ts) = true from decide_eq_true rfl]
  have C4 := Lib.hid (HC.out.below b4)
  have D4 := Lib.hid (HD.out.below b4)
  have HP4 := Lib.hid (HP.out.below b4)
  have KP4 := Lib.hid (KP.out.below b4)
  have B4 := Lib.hid (bel_trans BZ.out b4)
  clear b4 HC HD c0 d0 c1 d1 c2 d2 c3 d3 c4 d4 c5 d5 c6 d6 c7 d7 c8 d8
  have c3 := C4.out.cell 3 rfl
  have d3 := D4.out.cell 3 rfl
  have c4 := C4.out.cell 4 rfl
  have d4 := D4.out.cell 4 rfl
  have c5 := C4.out.cell 5 rfl
  have d5 := D4.out.cell 5 rfl
  go_wp2_with fail
  refine (eqEditS_same pA es.length pc pB pd es _ HP4.out KP4.out).mono ?_
  rintro e w5 ⟨rfl, b5⟩
  have C5 := Lib.hid (C4.out.below b5)
  have D5 := Lib.hid (D4.out.below b5)
  have B5 := Lib.hid (bel_trans B4.out b5)
  clear b5 C4 D4 c3 c4 c5 d3 d4 d5
  have c6 := C5.out.cell 6 rfl
  have d6 := D5.out.cell 6 rfl
  have c7 := C5.out.cell 7 rfl
  have d7 := D5.out.cell 7 rfl
  have c8 := C5.out.cell 8 rfl
  have d8 := D5.out.cell 8 rfl
  go_wp2_with fail
  go_ret
  exact ⟨rfl, B5.out⟩
end Go.Proofs.Ytcoladhppbknnaa
