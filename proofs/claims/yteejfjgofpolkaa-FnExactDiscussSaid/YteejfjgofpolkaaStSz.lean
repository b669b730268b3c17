/- The laws' helpers on strategies: size and copy. -/
import Derived.Test.YteejfjgofpolkaaStLaw
namespace Go.Proofs.Yteejfjgofpolkaa
set_option linter.unusedVariables false
set_option linter.unusedSimpArgs false
set_option maxRecDepth 100000
open Go.RowKit
theorem szI_st (A : Option Addr) (n c : Nat) (left : Int) (w : World) (hn : n ≤ 9223372036854775807) (h0 : 0 ≤ left) (h1 : left ≤ 1048576) :
    Calls Try.prog 63 #[.slice A n c, .int .i64 left] w fun e w' => e = .returned (.int .i64 (if left < n then -1 else left - n)) ∧ w = w' := by
  by_cases h : left < n
  · rw [if_pos h]
    have ew : IntKind.i64.wrap (left - n) = left - n := IntWalk.i64_in _ (by omega)
    have d0 := decide_eq_true (show left - (n : Int) < 0 by omega)
    go_enter Try.func63, Try.ntmps63
    go_wp2_with fail
    go_ret
    exact ⟨rfl, rfl⟩
  · rw [if_neg h]
    have ew : IntKind.i64.wrap (left - n) = left - n := IntWalk.i64_in _ (by omega)
    have d0 := decide_eq_false (show ¬ left - (n : Int) < 0 by omega)
    go_enter Try.func63, Try.ntmps63
    go_wp2_with fail
    go_ret
    exact ⟨rfl, rfl⟩
theorem szStrategy_any (A : Option Addr) (n c : Nat) (B : Option Addr) (m d : Nat) (left : Int) (w : World) (hn : n ≤ 9223372036854775807) (hm : m ≤ 9223372036854775807) (h0 : 0 ≤ left) (h1 : left ≤ 1048576) :
    Calls Try.prog 17 #[.agg #[.slice A n c, .slice B m d], .int .i64 left] w fun e w' => ∃ r, e = .returned (.int .i64 r) ∧ (r < 0 ∨ ((n : Int) ≤ left ∧ (m : Int) ≤ left)) ∧ Below w.heap.size w w' := by
  have b0 := bel_alloc w (.cells #[.slice A n c, .slice B m d] 34)
  have C0 := Cs.new w [.slice A n c, .slice B m d] 34
  have y0 := C0.cell 0 rfl
  have y1 := C0.cell 1 rfl
  have B0 := Lib.hid b0
  clear C0 b0
  by_cases h : left < n
  · have S1 := Lib.hid (fun W => szI_st A n c left W hn h0 h1)
    rw [if_pos h] at S1
    clear h
    go_enter Try.func17, Try.ntmps17
    go_wp2_with fail
    refine (S1.out _).mono ?_
    rintro e w1 ⟨rfl, rfl⟩
    go_wp2_with fail
    go_ret
    exact ⟨-1, rfl, .inl (by omega), B0.out⟩
  · have S1 := Lib.hid (fun W => szI_st A n c left W hn h0 h1)
    rw [if_neg h] at S1
    obtain ⟨l2, hl2⟩ : ∃ l, left - (n : Int) = l := ⟨_, rfl⟩
    rw [hl2] at S1
    have HL := Lib.hid hl2
    have d0 := decide_eq_false (show ¬ l2 < 0 by omega)
    have S2 := Lib.hid (fun W => szI_st B m d l2 W hm (by omega) (by omega))
    have HN := Lib.hid h
    clear hl2 h
    by_cases h2 : l2 < m
    · rw [if_pos h2] at S2
      clear h2
      go_enter Try.func17, Try.ntmps17
      go_wp2_with fail
      refine (S1.out _).mono ?_
      rintro e w1 ⟨rfl, rfl⟩
      go_wp2_with fail
      refine (S2.out _).mono ?_
      rintro e w1 ⟨rfl, rfl⟩
      go_wp2_with fail
      go_ret
      exact ⟨-1, rfl, .inl (by omega), B0.out⟩
    · rw [if_neg h2] at S2
      have d1 := decide_eq_false (show ¬ l2 - (m : Int) < 0 by omega)
      have R := Lib.hid (show (n : Int) ≤ left ∧ (m : Int) ≤ left by have := HL.out; omega)
      clear h2
      go_enter Try.func17, Try.ntmps17
      go_wp2_with fail
      refine (S1.out _).mono ?_
      rintro e w1 ⟨rfl, rfl⟩
      go_wp2_with fail
      refine (S2.out _).mono ?_
      rintro e w1 ⟨rfl, rfl⟩
      go_wp2_with fail
      go_ret
      exact ⟨_, rfl, .inr R.out, B0.out⟩
theorem OwnI.farS {w : World} {base : Nat} {A : Option Addr} {n c : Nat} {zs : List Int} (h : OwnI w base A n c zs) {g : Nat} (hg : g < base) (j : Nat) (u : Value) : OwnI (w.setCell ⟨g, j, none⟩ u) base A n c zs :=
  h.only (only_cell w g j u) (fun x hx => by have := (h.block x hx).1; omega)
theorem apart_of {w w' : World} {b : Nat} {A B : Option Addr} {n c m d : Nat} {zs ys : List Int} (o : OwnI w b A n c zs) (p : OwnI w' w.heap.size B m d ys) : Apart (.slice A n c) (.slice B m d) := by
  cases h : (Value.slice A n c).ownBlock with
  | none => exact .inl h
  | some x => exact .inr (fun e => by rw [h] at e; have := (o.block x h).2; have := (p.block x e.symm).1; omega)
set_option maxHeartbeats 1000000 in
theorem toStrategy_any (A : Option Addr) (n c : Nat) (z1 : List Int) (B : Option Addr) (m d : Nat) (z2 : List Int) (w : World) (h : Ints .i64 w A n c z1) (k : Ints .i64 w B m d z2) (hn : n ≤ 1048576) (hm : m ≤ 1048576) :
    Calls Try.prog 20 #[.agg #[.slice A n c, .slice B m d]] w fun e w' => ∃ A' c' B' d', e = .returned (.agg #[.slice A' n c', .slice B' m d']) ∧ OwnI w' w.heap.size A' n c' z1 ∧ OwnI w' w.heap.size B' m d' z2 ∧ Apart (.slice A' n c') (.slice B' m d') ∧ Below w.heap.size w w' := by
  obtain rfl : z1.length = n := h.1
  obtain rfl : z2.length = m := k.1
  obtain ⟨s3, hs3⟩ : ∃ s, ((w.alloc (.cells [.slice A z1.length c, .slice B z2.length d].toArray 34)).alloc (.cells [.slice none 0 0, .slice none 0 0].toArray 39)).alloc (.cells [.slice none 0 0, .slice none 0 0].toArray 39) = s := ⟨_, rfl⟩
  have C3 := ((Cs.new w [.slice A z1.length c, .slice B z2.length d] 34).alloc (.cells [.slice none 0 0, .slice none 0 0].toArray 39)).alloc (.cells [.slice none 0 0, .slice none 0 0].toArray 39)
  have D3 := (Cs.new (w.alloc (.cells [.slice A z1.length c, .slice B z2.length d].toArray 34)) [.slice none 0 0, .slice none 0 0] 39).alloc (.cells [.slice none 0 0, .slice none 0 0].toArray 39)
  have E3 := Cs.new ((w.alloc (.cells [.slice A z1.length c, .slice B z2.length d].toArray 34)).alloc (.cells [.slice none 0 0, .slice none 0 0].toArray 39)) [.slice none 0 0, .slice none 0 0] 39
  have b3 := bel_trans (bel_alloc w (.cells [.slice A z1.length c, .slice B z2.length d].toArray 34)) (bel_trans (bel_alloc (w.alloc (.cells [.slice A z1.length c, .slice B z2.length d].toArray 34)) (.cells [.slice none 0 0, .slice none 0 0].toArray 39)) (bel_alloc ((w.alloc (.cells [.slice A z1.length c, .slice B z2.length d].toArray 34)).alloc (.cells [.slice none 0 0, .slice none 0 0].toArray 39)) (.cells [.slice none 0 0, .slice none 0 0].toArray 39)))
  rw [hs3] at C3 D3 E3 b3
  rw [show ((w.alloc (.cells [.slice A z1.length c, .slice B z2.length d].toArray 34)).alloc (.cells [.slice none 0 0, .slice none 0 0].toArray 39)).heap.size = w.heap.size + 1 + 1 by simp] at E3
  rw [show (w.alloc (.cells [.slice A z1.length c, .slice B z2.length d].toArray 34)).heap.size = w.heap.size + 1 by simp] at D3
  have HS := Lib.hid hs3
  have y0 := C3.cell 0 rfl
  have y1 := C3.cell 1 rfl
  rw [← hs3] at y0 y1
  clear hs3
  go_enter Try.func20, Try.ntmps20
  go_wp2_with (fail)
  rw [show ((w.alloc (.cells #[.slice A z1.length c, .slice B z2.length d] 34)).alloc (.cells #[.slice none 0 0, .slice none 0 0] 39)).alloc (.cells #[.slice none 0 0, .slice none 0 0] 39) = s3 from HS.out]
  refine (toInt64S_any A z1.length c z1 _ (h.below b3) hn).mono ?_
  rintro e w4 ⟨A', c', rfl, o, b4⟩
  have z4 : w.heap.size + 1 + 1 < s3.heap.size := E3.1
  have C4 := C3.below b4
  have D4 := D3.below b4
  have E4 := E3.below b4
  have g0 := E4.free 0 (v := .slice none 0 0) (by simp)
  have p0 := E4.cell 0 (v := .slice none 0 0) (by simp)
  have E5 := E4.set 0 (.slice A' z1.length c') (by simp)
  have C5 := C4.far (g' := w.heap.size + 1 + 1) (by omega) 0 (.slice A' z1.length c')
  have D5 := D4.far (g' := w.heap.size + 1 + 1) (by omega) 0 (.slice A' z1.length c')
  have q1 := C5.cell 1 rfl
  have O5 := o.farS (g := w.heap.size + 1 + 1) z4 0 (.slice A' z1.length c')
  have B5 := (bel_trans b3 b4).setCell (p := ⟨w.heap.size + 1 + 1, 0, none⟩) (show w.heap.size ≤ w.heap.size + 1 + 1 by omega) (.slice A' z1.length c')
  have sz5 : s3.heap.size ≤ (w4.setCell ⟨w.heap.size + 1 + 1, 0, none⟩ (.slice A' z1.length c')).heap.size := by have := b4.size; simpa [World.setCell] using this
  clear y0 y1 HS
  go_wp2_with fail
  refine (toInt64S_any B z2.length d z2 _ (k.below B5) hm).mono ?_
  rintro e w6 ⟨B', d', rfl, o2, b6⟩
  have D6 := D5.below b6
  have E6 := E5.below b6
  have O6 := O5.below b6
  have AP := Lib.hid (apart_of O5 o2)
  have g1 := E6.free 1 (v := .slice none 0 0) (by simp)
  have p1 := E6.cell 1 (v := .slice none 0 0) (by simp)
  have E7 := E6.set 1 (.slice B' z2.length d') (by simp)
  have D7 := D6.far (g' := w.heap.size + 1 + 1) (by omega) 1 (.slice B' z2.length d')
  have x0 := E7.cell 0 (v := .slice A' z1.length c') (by simp)
  have x1 := E7.cell 1 (v := .slice B' z2.length d') (by simp)
  have t0 := D7.cell 0 rfl
  have t1 := D7.cell 1 rfl
  have h0 := D7.free 0 rfl
  have h1 := D7.free 1 rfl
  have D9 := Lib.hid ((D7.set 0 (.slice A' z1.length c') (by simp)).set 1 (.slice B' z2.length d') (by simp))
  have P9 := Lib.hid (((O6.farS (g := w.heap.size + 1 + 1) z4 1 (.slice B' z2.length d')).farS (g := w.heap.size + 1) (by omega) 0 (.slice A' z1.length c')).farS (g := w.heap.size + 1) (by omega) 1 (.slice B' z2.length d'))
  have R9 := Lib.hid (((o2.farS (g := w.heap.size + 1 + 1) (by omega) 1 (.slice B' z2.length d')).farS (g := w.heap.size + 1) (by omega) 0 (.slice A' z1.length c')).farS (g := w.heap.size + 1) (by omega) 1 (.slice B' z2.length d'))
  have B9 := Lib.hid ((((bel_trans B5 b6).setCell (p := ⟨w.heap.size + 1 + 1, 1, none⟩) (show w.heap.size ≤ w.heap.size + 1 + 1 by omega) (.slice B' z2.length d')).setCell (p := ⟨w.heap.size + 1, 0, none⟩) (show w.heap.size ≤ w.heap.size + 1 by omega) (.slice A' z1.length c')).setCell (p := ⟨w.heap.size + 1, 1, none⟩) (show w.heap.size ≤ w.heap.size + 1 by omega) (.slice B' z2.length d'))
  clear o o2 O5 O6 B5 b6 b4 E4 E5 E6 E7 C4 C5 C3 D3 D4 D5 D6 D7 q1 g0 p0
  go_wp2_with fail
  obtain ⟨w9, hw9⟩ : ∃ w9, ((w6.setCell ⟨w.heap.size + 1 + 1, 1, none⟩ (.slice B' z2.length d')).setCell ⟨w.heap.size + 1, 0, none⟩ (.slice A' z1.length c')).setCell ⟨w.heap.size + 1, 1, none⟩ (.slice B' z2.length d') = w9 := ⟨_, rfl⟩
  rw [hw9] at D9 P9 R9 B9 ⊢
  have k0 := D9.out.cell 0 (v := .slice A' z1.length c') (by simp)
  have k1 := D9.out.cell 1 (v := .slice B' z2.length d') (by simp)
  exact bodyPost_ret (v := .agg #[.slice A' z1.length c', .slice B' z2.length d']) (by simp [results, Try.results20, go_sem, k0, k1]) rfl ⟨A', c', B', d', rfl, P9.out.mono (by omega), R9.out.mono (by have := B9.out.size; omega), AP.out, B9.out⟩
end Go.Proofs.Yteejfjgofpolkaa
