/- Copies of proofs and ballots, once more: their lists are rows of the call's own. Printed by balo.py. -/
import Derived.Test.YtnjnngnagdhaiaaBals
namespace Go.Proofs.Ytnjnngnagdhaiaa
set_option linter.unusedVariables false
set_option maxRecDepth 100000
open Go.RowKit
theorem OwnI.far {w : World} {base : Nat} {A : Option Addr} {n c : Nat} {zs : List Int} (h : OwnI w base A n c zs) {g : Nat} (hg : g < base) (j : Nat) (u : Value) : OwnI (w.setCell ⟨g, j, none⟩ u) base A n c zs := by
  refine h.kept (row := some g) ⟨rfl, rfl, rfl, by simp [World.setCell], fun k _ hk => heap_setCell_other w ⟨g, j, none⟩ k u (fun e => hk (by simp [e]))⟩ ?_
  cases hv : (Value.slice A n c).ownBlock with
  | none => exact .inl rfl
  | some b =>
    refine .inr fun e => ?_
    have := (h.block b hv).1
    injection e with e
    omega
theorem toBitProof_own (A : Option Addr) (n c : Nat) (ms : List Int) (B : Option Addr) (m d : Nat) (cs : List Int) (C : Option Addr) (k f : Nat) (as_ : List Int) (w : World)
    (h1 : Ints .i64 w A n c ms) (h2 : Ints .i64 w B m d cs) (h3 : Ints .i64 w C k f as_) (n1 : n ≤ 1048576) (n2 : m ≤ 1048576) (n3 : k ≤ 1048576) :
    Calls Try.prog 19 #[.agg #[.slice A n c, .slice B m d, .slice C k f]] w fun e w' => ∃ A' c' B' d' C' f', e = .returned (.agg #[.slice A' n c', .slice B' m d', .slice C' k f']) ∧
      OwnI w' w.heap.size A' n c' ms ∧ OwnI w' w.heap.size B' m d' cs ∧ OwnI w' w.heap.size C' k f' as_ ∧ Below w.heap.size w w' := by
  have l1 := h1.1
  have l2 := h2.1
  have l3 := h3.1
  obtain ⟨w3, hw3⟩ : ∃ w3, ((w.alloc (.cells [.slice A n c, .slice B m d, .slice C k f].toArray 35)).alloc (.cells [.slice none 0 0, .slice none 0 0, .slice none 0 0].toArray 31)).alloc (.cells [.slice none 0 0, .slice none 0 0, .slice none 0 0].toArray 31) = w3 := ⟨_, rfl⟩
  have C0 := ((Cs.new w [.slice A n c, .slice B m d, .slice C k f] 35).alloc (.cells [.slice none 0 0, .slice none 0 0, .slice none 0 0].toArray 31)).alloc (.cells [.slice none 0 0, .slice none 0 0, .slice none 0 0].toArray 31)
  have D0 := (Cs.new (w.alloc (.cells [.slice A n c, .slice B m d, .slice C k f].toArray 35)) [.slice none 0 0, .slice none 0 0, .slice none 0 0] 31).alloc (.cells [.slice none 0 0, .slice none 0 0, .slice none 0 0].toArray 31)
  have E0 := Cs.new ((w.alloc (.cells [.slice A n c, .slice B m d, .slice C k f].toArray 35)).alloc (.cells [.slice none 0 0, .slice none 0 0, .slice none 0 0].toArray 31)) [.slice none 0 0, .slice none 0 0, .slice none 0 0] 31
  have bz := bel_trans (bel_alloc w (.cells [.slice A n c, .slice B m d, .slice C k f].toArray 35)) (bel_trans (bel_alloc (w.alloc (.cells [.slice A n c, .slice B m d, .slice C k f].toArray 35)) (.cells [.slice none 0 0, .slice none 0 0, .slice none 0 0].toArray 31)) (bel_alloc ((w.alloc (.cells [.slice A n c, .slice B m d, .slice C k f].toArray 35)).alloc (.cells [.slice none 0 0, .slice none 0 0, .slice none 0 0].toArray 31)) (.cells [.slice none 0 0, .slice none 0 0, .slice none 0 0].toArray 31)))
  rw [hw3] at C0 D0 E0 bz
  rw [show ((w.alloc (.cells [.slice A n c, .slice B m d, .slice C k f].toArray 35)).alloc (.cells [.slice none 0 0, .slice none 0 0, .slice none 0 0].toArray 31)).heap.size = w.heap.size + 1 + 1 by simp] at E0
  rw [show (w.alloc (.cells [.slice A n c, .slice B m d, .slice C k f].toArray 35)).heap.size = w.heap.size + 1 by simp] at D0
  have HW := Lib.hid hw3
  clear hw3
  go_enter Try.func19, Try.ntmps19
  go_wp2_with fail
  rw [show ((w.alloc (.cells #[.slice A n c, .slice B m d, .slice C k f] 35)).alloc (.cells #[.slice none 0 0, .slice none 0 0, .slice none 0 0] 31)).alloc (.cells #[.slice none 0 0, .slice none 0 0, .slice none 0 0] 31) = w3 from HW.out]
  refine (toInt64S_any A n c ms _ (h1.below bz) n1).mono ?_
  rintro e w4 ⟨A', c', rfl, o1, b4⟩
  rw [l1]
  rw [l1] at o1
  have C4 := C0.below b4
  have D4 := D0.below b4
  have E4 := E0.below b4
  have q0a := C4.cell 0 rfl
  have q1a := C4.cell 1 rfl
  have q2a := C4.cell 2 rfl
  have f0a := C4.free 0 rfl
  have f1a := C4.free 1 rfl
  have f2a := C4.free 2 rfl
  have lta := C4.1
  have q0b := D4.cell 0 rfl
  have q1b := D4.cell 1 rfl
  have q2b := D4.cell 2 rfl
  have f0b := D4.free 0 rfl
  have f1b := D4.free 1 rfl
  have f2b := D4.free 2 rfl
  have ltb := D4.1
  have q0c := E4.cell 0 rfl
  have q1c := E4.cell 1 rfl
  have q2c := E4.cell 2 rfl
  have f0c := E4.free 0 rfl
  have f1c := E4.free 1 rfl
  have f2c := E4.free 2 rfl
  have ltc := E4.1
  go_wp2_with fail
  obtain ⟨s5, hs5⟩ : ∃ s, w4.setCell ⟨w.heap.size + 1 + 1, 0, none⟩ (.slice A' n c') = s := ⟨_, rfl⟩
  rw [hs5]
  have C5 := C4.far (g' := w.heap.size + 1 + 1) (by omega) 0 (.slice A' n c')
  have D5 := D4.far (g' := w.heap.size + 1 + 1) (by omega) 0 (.slice A' n c')
  have E5 := E4.set 0 (.slice A' n c') (by simp)
  have b5 := (bel_trans bz b4).setCell (p := ⟨w.heap.size + 1 + 1, 0, none⟩) (show w.heap.size ≤ w.heap.size + 1 + 1 by omega) (.slice A' n c')
  rw [hs5] at C5 D5 E5 b5
  have N1 := o1.far (g := w.heap.size + 1 + 1) E0.1 0 (.slice A' n c')
  rw [hs5] at N1
  have z5 : w.heap.size + 1 + 1 < s5.heap.size := E5.1
  clear hs5
  refine (toInt64S_any B m d cs _ (h2.below b5) n2).mono ?_
  rintro e w6 ⟨B', d', rfl, o2, b6⟩
  rw [l2]
  rw [l2] at o2
  have C6 := C5.below b6
  have D6 := D5.below b6
  have E6 := E5.below b6
  have q0d := C6.cell 0 rfl
  have q1d := C6.cell 1 rfl
  have q2d := C6.cell 2 rfl
  have f0d := C6.free 0 rfl
  have f1d := C6.free 1 rfl
  have f2d := C6.free 2 rfl
  have ltd := C6.1
  have q0e := D6.cell 0 rfl
  have q1e := D6.cell 1 rfl
  have q2e := D6.cell 2 rfl
  have f0e := D6.free 0 rfl
  have f1e := D6.free 1 rfl
  have f2e := D6.free 2 rfl
  have lte := D6.1
  have q0f := E6.cell 0 rfl
  have q1f := E6.cell 1 rfl
  have q2f := E6.cell 2 rfl
  have f0f := E6.free 0 rfl
  have f1f := E6.free 1 rfl
  have f2f := E6.free 2 rfl
  have ltf := E6.1
  go_wp2_with fail
  obtain ⟨s7, hs7⟩ : ∃ s, w6.setCell ⟨w.heap.size + 1 + 1, 1, none⟩ (.slice B' m d') = s := ⟨_, rfl⟩
  rw [hs7]
  have C7 := C6.far (g' := w.heap.size + 1 + 1) (by omega) 1 (.slice B' m d')
  have D7 := D6.far (g' := w.heap.size + 1 + 1) (by omega) 1 (.slice B' m d')
  have E7 := E6.set 1 (.slice B' m d') (by simp)
  have b7 := (bel_trans b5 b6).setCell (p := ⟨w.heap.size + 1 + 1, 1, none⟩) (show w.heap.size ≤ w.heap.size + 1 + 1 by omega) (.slice B' m d')
  rw [hs7] at C7 D7 E7 b7
  have M1 := (N1.below b6).far (g := w.heap.size + 1 + 1) E0.1 1 (.slice B' m d')
  have N2 := o2.far (g := w.heap.size + 1 + 1) z5 1 (.slice B' m d')
  rw [hs7] at M1 N2
  have z7 : w.heap.size + 1 + 1 < s7.heap.size := E7.1
  clear hs7
  refine (toInt64S_any C k f as_ _ (h3.below b7) n3).mono ?_
  rintro e w8 ⟨C', f', rfl, o3, b8⟩
  rw [l3]
  rw [l3] at o3
  have C8 := C7.below b8
  have D8 := D7.below b8
  have E8 := E7.below b8
  have q0g := C8.cell 0 rfl
  have q1g := C8.cell 1 rfl
  have q2g := C8.cell 2 rfl
  have f0g := C8.free 0 rfl
  have f1g := C8.free 1 rfl
  have f2g := C8.free 2 rfl
  have ltg := C8.1
  have q0h := D8.cell 0 rfl
  have q1h := D8.cell 1 rfl
  have q2h := D8.cell 2 rfl
  have f0h := D8.free 0 rfl
  have f1h := D8.free 1 rfl
  have f2h := D8.free 2 rfl
  have lth := D8.1
  have q0i := E8.cell 0 rfl
  have q1i := E8.cell 1 rfl
  have q2i := E8.cell 2 rfl
  have f0i := E8.free 0 rfl
  have f1i := E8.free 1 rfl
  have f2i := E8.free 2 rfl
  have lti := E8.1
  have K1 := (M1.below b8).far (g := w.heap.size + 1 + 1) E0.1 2 (.slice C' k f')
  have K2 := (N2.below b8).far (g := w.heap.size + 1 + 1) z5 2 (.slice C' k f')
  have K3 := o3.far (g := w.heap.size + 1 + 1) z7 2 (.slice C' k f')
  have b9 := (bel_trans b7 b8).setCell (p := ⟨w.heap.size + 1 + 1, 2, none⟩) (show w.heap.size ≤ w.heap.size + 1 + 1 by omega) (.slice C' k f')
  have D9 := (((D8.far (g' := w.heap.size + 1 + 1) (by omega) 2 (.slice C' k f')).set 0 (.slice A' n c') (by simp)).set 1 (.slice B' m d') (by simp)).set 2 (.slice C' k f') (by simp)
  have y1 : w.heap.size + 1 < w3.heap.size := by have := E0.1; omega
  have y5 : w.heap.size + 1 < s5.heap.size := by omega
  have y7 : w.heap.size + 1 < s7.heap.size := by omega
  have F1 := ((K1.far (g := w.heap.size + 1) y1 0 (.slice A' n c')).far (g := w.heap.size + 1) y1 1 (.slice B' m d')).far (g := w.heap.size + 1) y1 2 (.slice C' k f')
  have F2 := ((K2.far (g := w.heap.size + 1) y5 0 (.slice A' n c')).far (g := w.heap.size + 1) y5 1 (.slice B' m d')).far (g := w.heap.size + 1) y5 2 (.slice C' k f')
  have F3 := ((K3.far (g := w.heap.size + 1) y7 0 (.slice A' n c')).far (g := w.heap.size + 1) y7 1 (.slice B' m d')).far (g := w.heap.size + 1) y7 2 (.slice C' k f')
  have G := ((b9.setCell (p := ⟨w.heap.size + 1, 0, none⟩) (show w.heap.size ≤ w.heap.size + 1 by omega) (.slice A' n c')).setCell (p := ⟨w.heap.size + 1, 1, none⟩) (show w.heap.size ≤ w.heap.size + 1 by omega) (.slice B' m d')).setCell (p := ⟨w.heap.size + 1, 2, none⟩) (show w.heap.size ≤ w.heap.size + 1 by omega) (.slice C' k f')
  go_wp2_with fail
  obtain ⟨w9, hw9⟩ : ∃ w9, (((w8.setCell ⟨w.heap.size + 1 + 1, 2, none⟩ (.slice C' k f')).setCell ⟨w.heap.size + 1, 0, none⟩ (.slice A' n c')).setCell ⟨w.heap.size + 1, 1, none⟩ (.slice B' m d')).setCell ⟨w.heap.size + 1, 2, none⟩ (.slice C' k f') = w9 := ⟨_, rfl⟩
  rw [hw9] at D9 F1 F2 F3 G ⊢
  have x0 := D9.cell 0 (v := .slice A' n c') (by simp)
  have x1 := D9.cell 1 (v := .slice B' m d') (by simp)
  have x2 := D9.cell 2 (v := .slice C' k f') (by simp)
  exact bodyPost_ret (v := .agg #[.slice A' n c', .slice B' m d', .slice C' k f']) (by simp [results, Try.results19, go_sem, x0, x1, x2]) rfl ⟨A', c', B', d', C', f', rfl, F1.mono (by omega), F2.mono (by omega), F3.mono (by omega), G⟩
/-- A proof in a block that the call made, its lists in younger blocks. -/
def BpOwn (w : World) (g o : Nat) (p : Bp) : Prop :=
  ∃ A n c B m d C k f, w.cell? ⟨g, o, none⟩ = some (.slice A n c) ∧ w.cell? ⟨g, o + 1, none⟩ = some (.slice B m d) ∧ w.cell? ⟨g, o + 2, none⟩ = some (.slice C k f) ∧ OwnI w (g + 1) A n c p.ms ∧ OwnI w (g + 1) B m d p.cs ∧ OwnI w (g + 1) C k f p.as_
theorem BpOwn.at {w : World} {g o : Nat} {p : Bp} (h : BpOwn w g o p) : BpAt w g o p := by
  obtain ⟨A, n, c, B, m, d, C, k, f, h1, h2, h3, i1, i2, i3⟩ := h
  exact ⟨A, n, c, B, m, d, C, k, f, h1, h2, h3, i1.ints, i2.ints, i3.ints⟩
theorem BpOwn.below {w w' : World} {g o : Nat} {p : Bp} (h : BpOwn w g o p) (hl : g < w.heap.size) (hb : Below w.heap.size w w') : BpOwn w' g o p := by
  obtain ⟨A, n, c, B, m, d, C, k, f, h1, h2, h3, i1, i2, i3⟩ := h
  exact ⟨A, n, c, B, m, d, C, k, f, (hb.cell (p := ⟨g, o, none⟩) hl).trans h1, (hb.cell (p := ⟨g, o + 1, none⟩) hl).trans h2, (hb.cell (p := ⟨g, o + 2, none⟩) hl).trans h3, i1.below hb, i2.below hb, i3.below hb⟩
theorem BpOwn.far {w : World} {g o : Nat} {p : Bp} (h : BpOwn w g o p) {o' : Nat} (hne : o + 2 < o') (u : Value) : BpOwn (w.setCell ⟨g, o', none⟩ u) g o p := by
  obtain ⟨A, n, c, B, m, d, C, k, f, h1, h2, h3, i1, i2, i3⟩ := h
  have key : ∀ q, q ≠ o' → (w.setCell ⟨g, o', none⟩ u).cell? ⟨g, q, none⟩ = w.cell? ⟨g, q, none⟩ := fun q hq => World.cell?_setCell_other _ _ _ _ (fun e => hq (by injection e with _ e2; exact e2.symm))
  exact ⟨A, n, c, B, m, d, C, k, f, (key _ (by omega)).trans h1, (key _ (by omega)).trans h2, (key _ (by omega)).trans h3, i1.far (by omega) _ _, i2.far (by omega) _ _, i3.far (by omega) _ _⟩
theorem BpOwn.put {w : World} {g o : Nat} {p : Bp} {A : Option Addr} {n c : Nat} {B : Option Addr} {m d : Nat} {C : Option Addr} {k f : Nat} {u0 u1 u2 : Value} (h0 : w.cell? ⟨g, o, none⟩ = some u0) (h1 : w.cell? ⟨g, o + 1, none⟩ = some u1) (h2 : w.cell? ⟨g, o + 2, none⟩ = some u2)
    (i1 : OwnI w (g + 1) A n c p.ms) (i2 : OwnI w (g + 1) B m d p.cs) (i3 : OwnI w (g + 1) C k f p.as_) :
    BpOwn (((w.setCell ⟨g, o, none⟩ (.slice A n c)).setCell ⟨g, o + 1, none⟩ (.slice B m d)).setCell ⟨g, o + 2, none⟩ (.slice C k f)) g o p := by
  have key : ∀ (W : World) (q o' : Nat) (u : Value), q ≠ o' → (W.setCell ⟨g, o', none⟩ u).cell? ⟨g, q, none⟩ = W.cell? ⟨g, q, none⟩ := fun W q o' u hq => World.cell?_setCell_other _ _ _ _ (fun e => hq (by injection e with _ e2; exact e2.symm))
  refine ⟨A, n, c, B, m, d, C, k, f, ?_, ?_, ?_, ((i1.far (by omega) _ _).far (by omega) _ _).far (by omega) _ _, ((i2.far (by omega) _ _).far (by omega) _ _).far (by omega) _ _, ((i3.far (by omega) _ _).far (by omega) _ _).far (by omega) _ _⟩
  · rw [key _ _ _ _ (by omega), key _ _ _ _ (by omega)]
    exact World.cell?_setCell_same w _ _ h0
  · rw [key _ _ _ _ (by omega)]
    exact World.cell?_setCell_same _ _ _ ((key _ _ _ _ (by omega)).trans h1)
  · exact World.cell?_setCell_same _ _ _ ((key _ _ _ _ (by omega)).trans ((key _ _ _ _ (by omega)).trans h2))
theorem BpOwn.farb {w : World} {g o : Nat} {p : Bp} (h : BpOwn w g o p) {g' : Nat} (hg : g' < g) (j : Nat) (u : Value) : BpOwn (w.setCell ⟨g', j, none⟩ u) g o p := by
  obtain ⟨A, n, c, B, m, d, C, k, f, h1, h2, h3, i1, i2, i3⟩ := h
  have key : ∀ q, (w.setCell ⟨g', j, none⟩ u).cell? ⟨g, q, none⟩ = w.cell? ⟨g, q, none⟩ := fun q => World.cell?_setCell_other _ _ _ _ (fun e => by injection e with e1; omega)
  exact ⟨A, n, c, B, m, d, C, k, f, (key _).trans h1, (key _).trans h2, (key _).trans h3, i1.far (by omega) _ _, i2.far (by omega) _ _, i3.far (by omega) _ _⟩
/-- Proofs in a block that the call made. -/
def BpsO (w : World) (base : Nat) (A : Option Addr) (n c : Nat) (ps : List Bp) : Prop :=
  ps.length = n ∧ n ≤ c ∧ c ≤ maxLen ∧ (0 < n → ∃ g, A = some ⟨g, 0, none⟩ ∧ base ≤ g ∧ g < w.heap.size ∧ ∀ (j : Nat) (p : Bp), ps[j]? = some p → BpOwn w g (j * 3) p)
theorem BpsO.bps {w : World} {base : Nat} {A : Option Addr} {n c : Nat} {ps : List Bp} (h : BpsO w base A n c ps) : Bps w A n c ps := by
  obtain ⟨h1, h2, h3, h5⟩ := h
  refine ⟨h1, h2, h3, fun hn => ?_⟩
  obtain ⟨g, e, hg, hl, hc⟩ := h5 hn
  exact ⟨g, 0, e, hl, fun j p hp => by rw [Nat.zero_add]; exact (hc j p hp).at⟩
theorem BpsO.below {w w' : World} {base : Nat} {A : Option Addr} {n c : Nat} {ps : List Bp} (h : BpsO w base A n c ps) (hb : Below w.heap.size w w') : BpsO w' base A n c ps := by
  obtain ⟨h1, h2, h3, h5⟩ := h
  refine ⟨h1, h2, h3, fun hn => ?_⟩
  obtain ⟨g, e, hg, hl, hc⟩ := h5 hn
  exact ⟨g, e, hg, Nat.lt_of_lt_of_le hl hb.size, fun j p hp => (hc j p hp).below hl hb⟩
theorem BpsO.farb {w : World} {base : Nat} {A : Option Addr} {n c : Nat} {ps : List Bp} (h : BpsO w base A n c ps) {g' : Nat} (hg' : g' < base) (j : Nat) (u : Value) : BpsO (w.setCell ⟨g', j, none⟩ u) base A n c ps := by
  obtain ⟨h1, h2, h3, h5⟩ := h
  refine ⟨h1, h2, h3, fun hn => ?_⟩
  obtain ⟨g, e, hg, hl, hc⟩ := h5 hn
  exact ⟨g, e, hg, by simpa [World.setCell] using hl, fun j p hp => (hc j p hp).farb (by omega) _ _⟩
set_option maxHeartbeats 1000000 in
theorem toBitProofS_own (A : Option Addr) (n c : Nat) (ps : List Bp) (w : World) (h : Bps w A n c ps) (hn : n ≤ 1048576) (hp : ∀ p ∈ ps, p.ms.length ≤ 1048576 ∧ p.cs.length ≤ 1048576 ∧ p.as_.length ≤ 1048576) :
    Calls Try.prog 79 #[.slice A n c] w fun e w' => ∃ A' c', e = .returned (.slice A' n c') ∧ BpsO w' w.heap.size A' n c' ps ∧ Below w.heap.size w w' := by
  have hl := Lib.hid h.1
  have HP := Lib.hid hp
  have hms := h.short
  obtain ⟨i0, hi, hzz⟩ := Option.map_eq_some_iff.1 info_bp
  simp only [Prod.mk.injEq] at hzz
  obtain ⟨hz0, hz1, hz2⟩ := hzz
  have hmk : ∀ W, (Instr.makeSlice 46 (.int .i64 (n : Int)) (.int .i64 (n : Int))).run Try.prog W = .ok (.slice (some ⟨W.heap.size, 0, none⟩) n n) (W.alloc (.cells (madeCells #[.slice none 0 0, .slice none 0 0, .slice none 0 0] (n * 3)) 31)) := fun W => by
    have := run_make (P := Try.prog) W 46 31 i0 _ Try.underlying46 hi hz0 .i64 .i64 n n (by omega) (Int.le_refl _) (by rw [hz2]; omega) (by omega)
    rw [hz1] at this
    exact this
  clear hp hi hz0 hz1 hz2
  go_enter Try.func79, Try.ntmps79
  go_wp2_with fail
  have CW := Cs.new w (madeCells #[.slice none 0 0, .slice none 0 0, .slice none 0 0] (n * 3)).toList 31
  rw [Array.toArray_toList] at CW
  have CL : (madeCells #[.slice none 0 0, .slice none 0 0, .slice none 0 0] (n * 3)).toList.length = n * 3 := by simp [madeCells]
  go_loopw [4] (fun i wr => ∃ (k : Nat) (L : List Value), k ≤ n ∧ i = .int .i64 k ∧ L.length = n * 3 ∧ Cs wr w.heap.size L ∧ (∀ (j : Nat) (p : Bp), j < k → ps[j]? = some p → BpOwn wr w.heap.size (j * 3) p) ∧ Below w.heap.size w wr) (fun i _ => n - (intOf i).toNat)
  case atStart => exact ⟨0, _, Nat.zero_le _, rfl, CL, CW, fun j p hj => by omega, bel_alloc _ _⟩
  case round =>
    obtain ⟨k, L, hk, rfl, hL, hC, hB, hbel⟩ := hrel
    have HC := Lib.hid hC
    have HB := Lib.hid hB
    have HL := Lib.hid hL
    clear hC hB hL CW CL
    by_cases hlt : k < n
    · obtain ⟨b, off, p, rfl, hb, ⟨A1, n1, c1, B1, m1, d1, C1, k1, f1, q0, q1, q2, i1, i2, i3⟩, hp⟩ := (h.below hbel).at hlt
      obtain ⟨l1, l2, l3⟩ := HP.out p (mem_of_at hp.out)
      have e1 := i1.1
      have e2 := i2.1
      have e3 := i3.1
      have x1 := i1.2.1
      have x2 := i2.2.1
      have x3 := i3.2.1
      have y1 := i1.2.2.1
      have y2 := i2.2.2.1
      have y3 := i3.2.2.1
      have TB := Lib.hid (toBitProof_own A1 n1 c1 p.ms B1 m1 d1 p.cs C1 k1 f1 p.as_ wr i1 i2 i3 (by omega) (by omega) (by omega))
      have hgr : w.heap.size < wr.heap.size := HC.out.1
      clear i1 i2 i3 e1 e2 e3
      go_wp2_with fail
      refine TB.out.mono ?_
      rintro e w1 ⟨A2, c2, B2, d2, C2, f2, rfl, o1, o2, o3, b1⟩
      have HC1 := Lib.hid (HC.out.below b1)
      have bel1 := bel_trans hbel b1
      have hll := HL.out
      obtain ⟨u0, hu0⟩ : ∃ u, L[k * 3]? = some u := ⟨_, List.getElem?_eq_getElem (by omega)⟩
      obtain ⟨u1, hu1⟩ : ∃ u, L[k * 3 + 1]? = some u := ⟨_, List.getElem?_eq_getElem (by omega)⟩
      obtain ⟨u2, hu2⟩ : ∃ u, L[k * 3 + 2]? = some u := ⟨_, List.getElem?_eq_getElem (by omega)⟩
      have v0 := HC1.out.cell _ hu0
      have v1 := HC1.out.cell _ hu1
      have v2 := HC1.out.cell _ hu2
      have z0 := HC1.out.free _ hu0
      have z1 := HC1.out.free _ hu1
      have z2 := HC1.out.free _ hu2
      have PUT := Lib.hid (BpOwn.put (p := p) v0 v1 v2 (o1.mono (b2 := w.heap.size + 1) hgr) (o2.mono (b2 := w.heap.size + 1) hgr) (o3.mono (b2 := w.heap.size + 1) hgr))
      have HB1 : Hid (∀ (j : Nat) (p : Bp), j < k → ps[j]? = some p → BpOwn w1 w.heap.size (j * 3) p) := fun j p hj hpp => (HB.out j p hj hpp).below hgr b1
      clear hu0 hu1 hu2 hll o1 o2 o3
      go_wp2_with fail
      go_roundw
      case rel =>
        refine ⟨k + 1, _, by omega, by go_num, ?_, ((HC1.out.set (k * 3) _ (by rw [HL.out]; omega)).set (k * 3 + 1) _ (by rw [List.length_set, HL.out]; omega)).set (k * 3 + 2) _ (by rw [List.length_set, List.length_set, HL.out]; omega), ?_, ((bel1.setCell (Nat.le_refl _) _).setCell (Nat.le_refl _) _).setCell (Nat.le_refl _) _⟩
        · simp [HL.out]
        · intro j x hj hx
          rcases Nat.lt_or_ge j k with h1 | h1
          · exact (((HB1.out j x h1 hx).far (by omega) _).far (by omega) _).far (by omega) _
          · obtain rfl : j = k := by omega
            rw [hp.out] at hx
            injection hx with hx
            subst hx
            exact PUT.out
      case measure => simp [intOf]; omega
    · obtain rfl : n = k := by omega
      have hgr : w.heap.size < wr.heap.size := HC.out.1
      go_wp2_with fail
      go_ret
      exact ⟨_, _, rfl, ⟨hl.out, Nat.le_refl _, by unfold maxLen; omega, fun h0 => ⟨w.heap.size, rfl, Nat.le_refl _, hgr, fun j p hp => HB.out j p (by have := (List.getElem?_eq_some_iff.1 hp).1; have := hl.out; omega) hp⟩⟩, hbel⟩
theorem BpsO.mono {w : World} {base b2 : Nat} {A : Option Addr} {n c : Nat} {ps : List Bp} (h : BpsO w base A n c ps) (hb : b2 ≤ base) : BpsO w b2 A n c ps := by
  obtain ⟨h1, h2, h3, h5⟩ := h
  refine ⟨h1, h2, h3, fun hn => ?_⟩
  obtain ⟨g, e, hg, r⟩ := h5 hn
  exact ⟨g, e, Nat.le_trans hb hg, r⟩
set_option maxHeartbeats 1000000 in
theorem toBallot_own (A : Option Addr) (n c : Nat) (ss : List Int) (B : Option Addr) (m d : Nat) (ps : List Bp) (key : Int) (w : World)
    (h1 : Ints .i64 w A n c ss) (h2 : Bps w B m d ps) (n1 : n ≤ 1048576) (n2 : m ≤ 1048576) (hps : ∀ p ∈ ps, p.ms.length ≤ 1048576 ∧ p.cs.length ≤ 1048576 ∧ p.as_.length ≤ 1048576) :
    Calls Try.prog 36 #[.agg #[.slice A n c, .slice B m d, .int .i64 key]] w fun e w' => ∃ A' c' B' d', e = .returned (.agg #[.slice A' n c', .slice B' m d', .int .i64 key]) ∧ OwnI w' w.heap.size A' n c' ss ∧ BpsO w' w.heap.size B' m d' ps ∧ Below w.heap.size w w' := by
  have l1 := h1.1
  have HPS := Lib.hid hps
  clear hps
  obtain ⟨w3, hw3⟩ : ∃ w3, ((w.alloc (.cells [.slice A n c, .slice B m d, .int .i64 key].toArray 60)).alloc (.cells [.slice none 0 0, .slice none 0 0, .int .i64 0].toArray 48)).alloc (.cells [.slice none 0 0, .slice none 0 0, .int .i64 0].toArray 48) = w3 := ⟨_, rfl⟩
  have C0 := ((Cs.new w [.slice A n c, .slice B m d, .int .i64 key] 60).alloc (.cells [.slice none 0 0, .slice none 0 0, .int .i64 0].toArray 48)).alloc (.cells [.slice none 0 0, .slice none 0 0, .int .i64 0].toArray 48)
  have D0 := (Cs.new (w.alloc (.cells [.slice A n c, .slice B m d, .int .i64 key].toArray 60)) [.slice none 0 0, .slice none 0 0, .int .i64 0] 48).alloc (.cells [.slice none 0 0, .slice none 0 0, .int .i64 0].toArray 48)
  have E0 := Cs.new ((w.alloc (.cells [.slice A n c, .slice B m d, .int .i64 key].toArray 60)).alloc (.cells [.slice none 0 0, .slice none 0 0, .int .i64 0].toArray 48)) [.slice none 0 0, .slice none 0 0, .int .i64 0] 48
  have bz := bel_trans (bel_alloc w (.cells [.slice A n c, .slice B m d, .int .i64 key].toArray 60)) (bel_trans (bel_alloc (w.alloc (.cells [.slice A n c, .slice B m d, .int .i64 key].toArray 60)) (.cells [.slice none 0 0, .slice none 0 0, .int .i64 0].toArray 48)) (bel_alloc ((w.alloc (.cells [.slice A n c, .slice B m d, .int .i64 key].toArray 60)).alloc (.cells [.slice none 0 0, .slice none 0 0, .int .i64 0].toArray 48)) (.cells [.slice none 0 0, .slice none 0 0, .int .i64 0].toArray 48)))
  rw [hw3] at C0 D0 E0 bz
  rw [show ((w.alloc (.cells [.slice A n c, .slice B m d, .int .i64 key].toArray 60)).alloc (.cells [.slice none 0 0, .slice none 0 0, .int .i64 0].toArray 48)).heap.size = w.heap.size + 1 + 1 by simp] at E0
  rw [show (w.alloc (.cells [.slice A n c, .slice B m d, .int .i64 key].toArray 60)).heap.size = w.heap.size + 1 by simp] at D0
  have HW := Lib.hid hw3
  clear hw3
  go_enter Try.func36, Try.ntmps36
  go_wp2_with fail
  rw [show ((w.alloc (.cells #[.slice A n c, .slice B m d, .int .i64 key] 60)).alloc (.cells #[.slice none 0 0, .slice none 0 0, .int .i64 0] 48)).alloc (.cells #[.slice none 0 0, .slice none 0 0, .int .i64 0] 48) = w3 from HW.out]
  refine (toInt64S_any A n c ss _ (h1.below bz) n1).mono ?_
  rintro e w4 ⟨A', c', rfl, o1, b4⟩
  rw [l1]
  rw [l1] at o1
  have C4 := C0.below b4
  have D4 := D0.below b4
  have E4 := E0.below b4
  have q0a := C4.cell 0 rfl
  have q1a := C4.cell 1 rfl
  have q2a := C4.cell 2 rfl
  have f0a := C4.free 0 rfl
  have f1a := C4.free 1 rfl
  have f2a := C4.free 2 rfl
  have lta := C4.1
  have q0b := D4.cell 0 rfl
  have q1b := D4.cell 1 rfl
  have q2b := D4.cell 2 rfl
  have f0b := D4.free 0 rfl
  have f1b := D4.free 1 rfl
  have f2b := D4.free 2 rfl
  have ltb := D4.1
  have q0c := E4.cell 0 rfl
  have q1c := E4.cell 1 rfl
  have q2c := E4.cell 2 rfl
  have f0c := E4.free 0 rfl
  have f1c := E4.free 1 rfl
  have f2c := E4.free 2 rfl
  have ltc := E4.1
  go_wp2_with fail
  obtain ⟨s5, hs5⟩ : ∃ s, w4.setCell ⟨w.heap.size + 1 + 1, 0, none⟩ (.slice A' n c') = s := ⟨_, rfl⟩
  rw [hs5]
  have C5 := C4.far (g' := w.heap.size + 1 + 1) (by omega) 0 (.slice A' n c')
  have D5 := D4.far (g' := w.heap.size + 1 + 1) (by omega) 0 (.slice A' n c')
  have E5 := E4.set 0 (.slice A' n c') (by simp)
  have b5 := (bel_trans bz b4).setCell (p := ⟨w.heap.size + 1 + 1, 0, none⟩) (show w.heap.size ≤ w.heap.size + 1 + 1 by omega) (.slice A' n c')
  rw [hs5] at C5 D5 E5 b5
  have N1 := o1.far (g := w.heap.size + 1 + 1) E0.1 0 (.slice A' n c')
  rw [hs5] at N1
  have z5 : w.heap.size + 1 + 1 < s5.heap.size := E5.1
  clear hs5
  refine (toBitProofS_own B m d ps _ (h2.below b5) n2 HPS.out).mono ?_
  rintro e w6 ⟨B', d', rfl, o2, b6⟩
  have C6 := C5.below b6
  have D6 := D5.below b6
  have E6 := E5.below b6
  have q0d := C6.cell 0 rfl
  have q1d := C6.cell 1 rfl
  have q2d := C6.cell 2 rfl
  have f0d := C6.free 0 rfl
  have f1d := C6.free 1 rfl
  have f2d := C6.free 2 rfl
  have ltd := C6.1
  have q0e := D6.cell 0 rfl
  have q1e := D6.cell 1 rfl
  have q2e := D6.cell 2 rfl
  have f0e := D6.free 0 rfl
  have f1e := D6.free 1 rfl
  have f2e := D6.free 2 rfl
  have lte := D6.1
  have q0f := E6.cell 0 rfl
  have q1f := E6.cell 1 rfl
  have q2f := E6.cell 2 rfl
  have f0f := E6.free 0 rfl
  have f1f := E6.free 1 rfl
  have f2f := E6.free 2 rfl
  have ltf := E6.1
  have M1 := (((N1.below b6).far (g := w.heap.size + 1 + 1) E0.1 1 (.slice B' m d')).far (g := w.heap.size + 1 + 1) E0.1 2 (.int .i64 key))
  have M2 := ((o2.farb (g' := w.heap.size + 1 + 1) z5 1 (.slice B' m d')).farb (g' := w.heap.size + 1 + 1) z5 2 (.int .i64 key))
  have y1 : w.heap.size + 1 < w3.heap.size := by have := E0.1; omega
  have y5 : w.heap.size + 1 < s5.heap.size := by omega
  have F1 := ((M1.far (g := w.heap.size + 1) y1 0 (.slice A' n c')).far (g := w.heap.size + 1) y1 1 (.slice B' m d')).far (g := w.heap.size + 1) y1 2 (.int .i64 key)
  have F2 := ((M2.farb (g' := w.heap.size + 1) y5 0 (.slice A' n c')).farb (g' := w.heap.size + 1) y5 1 (.slice B' m d')).farb (g' := w.heap.size + 1) y5 2 (.int .i64 key)
  have b7 := ((bel_trans b5 b6).setCell (p := ⟨w.heap.size + 1 + 1, 1, none⟩) (show w.heap.size ≤ w.heap.size + 1 + 1 by omega) (.slice B' m d')).setCell (p := ⟨w.heap.size + 1 + 1, 2, none⟩) (show w.heap.size ≤ w.heap.size + 1 + 1 by omega) (.int .i64 key)
  have G := ((b7.setCell (p := ⟨w.heap.size + 1, 0, none⟩) (show w.heap.size ≤ w.heap.size + 1 by omega) (.slice A' n c')).setCell (p := ⟨w.heap.size + 1, 1, none⟩) (show w.heap.size ≤ w.heap.size + 1 by omega) (.slice B' m d')).setCell (p := ⟨w.heap.size + 1, 2, none⟩) (show w.heap.size ≤ w.heap.size + 1 by omega) (.int .i64 key)
  have D9 := (((((D6.far (g' := w.heap.size + 1 + 1) (by omega) 1 (.slice B' m d')).far (g' := w.heap.size + 1 + 1) (by omega) 2 (.int .i64 key)).set 0 (.slice A' n c') (by simp)).set 1 (.slice B' m d') (by simp)).set 2 (.int .i64 key) (by simp))
  have C7 := C6.far (g' := w.heap.size + 1 + 1) (by omega) 1 (.slice B' m d')
  have k2 := C7.cell 2 rfl
  have HB9 := Lib.hid D9
  have HF1 := Lib.hid F1
  have HF2 := Lib.hid F2
  clear D9 F1 F2 M1 M2
  go_wp2_with fail
  obtain ⟨w9, hw9⟩ : ∃ w9, ((((w6.setCell ⟨w.heap.size + 1 + 1, 1, none⟩ (.slice B' m d')).setCell ⟨w.heap.size + 1 + 1, 2, none⟩ (.int .i64 key)).setCell ⟨w.heap.size + 1, 0, none⟩ (.slice A' n c')).setCell ⟨w.heap.size + 1, 1, none⟩ (.slice B' m d')).setCell ⟨w.heap.size + 1, 2, none⟩ (.int .i64 key) = w9 := ⟨_, rfl⟩
  rw [hw9] at HB9 HF1 HF2 G ⊢
  have x0 := HB9.out.cell 0 (v := .slice A' n c') (by simp)
  have x1 := HB9.out.cell 1 (v := .slice B' m d') (by simp)
  have x2 := HB9.out.cell 2 (v := .int .i64 key) (by simp)
  exact bodyPost_ret (v := .agg #[.slice A' n c', .slice B' m d', .int .i64 key]) (by simp [results, Try.results36, go_sem, x0, x1, x2]) rfl ⟨A', c', B', d', rfl, HF1.out.mono (by omega), HF2.out.mono (by omega), G⟩
/-- A ballot in a block that the call made. -/
def BalOwn (w : World) (g o : Nat) (q : Bal) : Prop :=
  ∃ A n c B m d, w.cell? ⟨g, o, none⟩ = some (.slice A n c) ∧ w.cell? ⟨g, o + 1, none⟩ = some (.slice B m d) ∧ w.cell? ⟨g, o + 2, none⟩ = some (.int .i64 q.key) ∧ OwnI w (g + 1) A n c q.ss ∧ BpsO w (g + 1) B m d q.ps
theorem BalOwn.at {w : World} {g o : Nat} {q : Bal} (h : BalOwn w g o q) : BalAt w g o q := by
  obtain ⟨A, n, c, B, m, d, h1, h2, h3, i1, i2⟩ := h
  exact ⟨A, n, c, B, m, d, h1, h2, h3, i1.ints, i2.bps⟩
theorem BalOwn.below {w w' : World} {g o : Nat} {q : Bal} (h : BalOwn w g o q) (hl : g < w.heap.size) (hb : Below w.heap.size w w') : BalOwn w' g o q := by
  obtain ⟨A, n, c, B, m, d, h1, h2, h3, i1, i2⟩ := h
  exact ⟨A, n, c, B, m, d, (hb.cell (p := ⟨g, o, none⟩) hl).trans h1, (hb.cell (p := ⟨g, o + 1, none⟩) hl).trans h2, (hb.cell (p := ⟨g, o + 2, none⟩) hl).trans h3, i1.below hb, i2.below hb⟩
theorem BalOwn.far {w : World} {g o : Nat} {q : Bal} (h : BalOwn w g o q) {o' : Nat} (hne : o + 2 < o') (u : Value) : BalOwn (w.setCell ⟨g, o', none⟩ u) g o q := by
  obtain ⟨A, n, c, B, m, d, h1, h2, h3, i1, i2⟩ := h
  have key : ∀ q, q ≠ o' → (w.setCell ⟨g, o', none⟩ u).cell? ⟨g, q, none⟩ = w.cell? ⟨g, q, none⟩ := fun q hq => World.cell?_setCell_other _ _ _ _ (fun e => hq (by injection e with _ e2; exact e2.symm))
  exact ⟨A, n, c, B, m, d, (key _ (by omega)).trans h1, (key _ (by omega)).trans h2, (key _ (by omega)).trans h3, i1.far (by omega) _ _, i2.farb (by omega) _ _⟩
theorem BalOwn.put {w : World} {g o : Nat} {q : Bal} {A : Option Addr} {n c : Nat} {B : Option Addr} {m d : Nat} {u0 u1 u2 : Value} (h0 : w.cell? ⟨g, o, none⟩ = some u0) (h1 : w.cell? ⟨g, o + 1, none⟩ = some u1) (h2 : w.cell? ⟨g, o + 2, none⟩ = some u2)
    (i1 : OwnI w (g + 1) A n c q.ss) (i2 : BpsO w (g + 1) B m d q.ps) :
    BalOwn (((w.setCell ⟨g, o, none⟩ (.slice A n c)).setCell ⟨g, o + 1, none⟩ (.slice B m d)).setCell ⟨g, o + 2, none⟩ (.int .i64 q.key)) g o q := by
  have key : ∀ (W : World) (q o' : Nat) (u : Value), q ≠ o' → (W.setCell ⟨g, o', none⟩ u).cell? ⟨g, q, none⟩ = W.cell? ⟨g, q, none⟩ := fun W q o' u hq => World.cell?_setCell_other _ _ _ _ (fun e => hq (by injection e with _ e2; exact e2.symm))
  refine ⟨A, n, c, B, m, d, ?_, ?_, ?_, ((i1.far (by omega) _ _).far (by omega) _ _).far (by omega) _ _, ((i2.farb (by omega) _ _).farb (by omega) _ _).farb (by omega) _ _⟩
  · rw [key _ _ _ _ (by omega), key _ _ _ _ (by omega)]
    exact World.cell?_setCell_same w _ _ h0
  · rw [key _ _ _ _ (by omega)]
    exact World.cell?_setCell_same _ _ _ ((key _ _ _ _ (by omega)).trans h1)
  · exact World.cell?_setCell_same _ _ _ ((key _ _ _ _ (by omega)).trans ((key _ _ _ _ (by omega)).trans h2))
def BalsO (w : World) (base : Nat) (A : Option Addr) (n : Nat) (qs : List Bal) : Prop :=
  0 < n → ∃ g, A = some ⟨g, 0, none⟩ ∧ base ≤ g ∧ ∀ (j : Nat) (q : Bal), qs[j]? = some q → BalOwn w g (j * 3) q ∧ w.frozen? ⟨g, j * 3 + 2, none⟩ = false
set_option maxHeartbeats 1000000 in
theorem toBallotS_own (A : Option Addr) (n c : Nat) (qs : List Bal) (w : World) (h : Bals w A n c qs) (hn : n ≤ 1048576) (hp : ∀ q ∈ qs, SmallQ q) :
    Calls Try.prog 47 #[.slice A n c] w fun e w' => ∃ A' c', e = .returned (.slice A' n c') ∧ Bals w' A' n c' qs ∧ BalsO w' w.heap.size A' n qs ∧ Below w.heap.size w w' := by
  have hl := Lib.hid h.1
  have HP := Lib.hid hp
  have hms := h.short
  obtain ⟨i0, hi, hzz⟩ := Option.map_eq_some_iff.1 info_bal
  simp only [Prod.mk.injEq] at hzz
  obtain ⟨hz0, hz1, hz2⟩ := hzz
  have hmk : ∀ W, (Instr.makeSlice 45 (.int .i64 (n : Int)) (.int .i64 (n : Int))).run Try.prog W = .ok (.slice (some ⟨W.heap.size, 0, none⟩) n n) (W.alloc (.cells (madeCells #[.slice none 0 0, .slice none 0 0, .int .i64 0] (n * 3)) 48)) := fun W => by
    have := run_make (P := Try.prog) W 45 48 i0 _ Try.underlying45 hi hz0 .i64 .i64 n n (by omega) (Int.le_refl _) (by rw [hz2]; omega) (by omega)
    rw [hz1] at this
    exact this
  clear hp hi hz0 hz1 hz2
  go_enter Try.func47, Try.ntmps47
  go_wp2_with fail
  have CW := Cs.new w (madeCells #[.slice none 0 0, .slice none 0 0, .int .i64 0] (n * 3)).toList 48
  rw [Array.toArray_toList] at CW
  have CL : (madeCells #[.slice none 0 0, .slice none 0 0, .int .i64 0] (n * 3)).toList.length = n * 3 := by simp [madeCells]
  go_loopw [4] (fun i wr => ∃ (k : Nat) (L : List Value), k ≤ n ∧ i = .int .i64 k ∧ L.length = n * 3 ∧ Cs wr w.heap.size L ∧ (∀ (j : Nat) (p : Bal), j < k → qs[j]? = some p → BalOwn wr w.heap.size (j * 3) p) ∧ Below w.heap.size w wr) (fun i _ => n - (intOf i).toNat)
  case atStart => exact ⟨0, _, Nat.zero_le _, rfl, CL, CW, fun j p hj => by omega, bel_alloc _ _⟩
  case round =>
    obtain ⟨k, L, hk, rfl, hL, hC, hB, hbel⟩ := hrel
    have HC := Lib.hid hC
    have HB := Lib.hid hB
    have HL := Lib.hid hL
    clear hC hB hL CW CL
    by_cases hlt : k < n
    · obtain ⟨b, off, p, rfl, hb, ⟨A1, n1, c1, B1, m1, d1, q0, q1, q2, i1, i2⟩, hp⟩ := (h.below hbel).at hlt
      obtain ⟨l1, l2, l3⟩ := HP.out p (mem_of_at hp.out)
      have e1 := i1.1
      have e2 := i2.1
      obtain ⟨key, hkey⟩ : ∃ x, p.key = x := ⟨_, rfl⟩
      rw [hkey] at q2
      have HK := Lib.hid hkey
      have TB := Lib.hid (toBallot_own A1 n1 c1 p.ss B1 m1 d1 p.ps key wr i1 i2 (by omega) (by omega) l3)
      have hgr : w.heap.size < wr.heap.size := HC.out.1
      clear i1 i2 e1 e2 hkey l3
      go_wp2_with fail
      refine TB.out.mono ?_
      rintro e w1 ⟨A2, c2, B2, d2, rfl, o1, o2, b1⟩
      have HC1 := Lib.hid (HC.out.below b1)
      have bel1 := bel_trans hbel b1
      have hll := HL.out
      obtain ⟨u0, hu0⟩ : ∃ u, L[k * 3]? = some u := ⟨_, List.getElem?_eq_getElem (by omega)⟩
      obtain ⟨u1, hu1⟩ : ∃ u, L[k * 3 + 1]? = some u := ⟨_, List.getElem?_eq_getElem (by omega)⟩
      obtain ⟨u2, hu2⟩ : ∃ u, L[k * 3 + 2]? = some u := ⟨_, List.getElem?_eq_getElem (by omega)⟩
      have v0 := HC1.out.cell _ hu0
      have v1 := HC1.out.cell _ hu1
      have v2 := HC1.out.cell _ hu2
      have z0 := HC1.out.free _ hu0
      have z1 := HC1.out.free _ hu1
      have z2 := HC1.out.free _ hu2
      have pp := BalOwn.put (q := p) v0 v1 v2 (o1.mono (b2 := w.heap.size + 1) hgr) (o2.mono (b2 := w.heap.size + 1) hgr)
      rw [HK.out] at pp
      have PUT := Lib.hid pp
      have HB1 : Hid (∀ (j : Nat) (p : Bal), j < k → qs[j]? = some p → BalOwn w1 w.heap.size (j * 3) p) := fun j p hj hpp => (HB.out j p hj hpp).below hgr b1
      clear hu0 hu1 hu2 hll o1 o2 pp
      go_wp2_with fail
      go_roundw
      case rel =>
        refine ⟨k + 1, _, by omega, by go_num, ?_, ((HC1.out.set (k * 3) _ (by rw [HL.out]; omega)).set (k * 3 + 1) _ (by rw [List.length_set, HL.out]; omega)).set (k * 3 + 2) _ (by rw [List.length_set, List.length_set, HL.out]; omega), ?_, ((bel1.setCell (Nat.le_refl _) _).setCell (Nat.le_refl _) _).setCell (Nat.le_refl _) _⟩
        · simp [HL.out]
        · intro j x hj hx
          rcases Nat.lt_or_ge j k with h1 | h1
          · exact (((HB1.out j x h1 hx).far (by omega) _).far (by omega) _).far (by omega) _
          · obtain rfl : j = k := by omega
            rw [hp.out] at hx
            injection hx with hx
            subst hx
            exact PUT.out
      case measure => simp [intOf]; omega
    · obtain rfl : n = k := by omega
      have hgr : w.heap.size < wr.heap.size := HC.out.1
      go_wp2_with fail
      go_ret
      exact ⟨_, _, rfl, ⟨hl.out, Nat.le_refl _, by unfold maxLen; omega, fun h0 => ⟨w.heap.size, 0, rfl, hgr, fun j p hp => by
        rw [Nat.zero_add]
        exact (HB.out j p (by have := (List.getElem?_eq_some_iff.1 hp).1; have := hl.out; omega) hp).at⟩⟩, fun h0 => ⟨w.heap.size, rfl, Nat.le_refl _, fun j p hp => by
        have hj : j < n := by have := (List.getElem?_eq_some_iff.1 hp).1; have := hl.out; omega
        exact ⟨HB.out j p hj hp, HC.out.free _ (List.getElem?_eq_getElem (by rw [HL.out]; omega))⟩⟩, hbel⟩
end Go.Proofs.Ytnjnngnagdhaiaa
