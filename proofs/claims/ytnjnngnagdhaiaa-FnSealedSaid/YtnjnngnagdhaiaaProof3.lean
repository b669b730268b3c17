/- The law on proofs for bits. -/
import Derived.Test.YtnjnngnagdhaiaaProof2
namespace Go.Proofs.Ytnjnngnagdhaiaa
set_option linter.unusedVariables false
open Go.RowKit
theorem specIsBitProof_any (s : Int) (A : Option Addr) (n c : Nat) (ms : List Int) (B : Option Addr) (m d : Nat) (cs : List Int) (C : Option Addr) (k f : Nat) (as_ : List Int) (w : World)
    (h1 : Ints .i64 w A n c ms) (h2 : Ints .i64 w B m d cs) (h3 : Ints .i64 w C k f as_) :
    Calls Try.prog 18 #[.int .i64 s, .agg #[.slice A n c, .slice B m d, .slice C k f]] w fun e w' => e = .returned (.bool (bpB s ms cs as_)) ∧ Below w.heap.size w w' := by
  have C0 := Cs.new w [.slice A n c, .slice B m d, .slice C k f] 31
  have b0 := bel_alloc w (.cells [.slice A n c, .slice B m d, .slice C k f].toArray 31)
  go_enter Try.func18, Try.ntmps18
  go_wp2_with fail
  refine (l09Proof_any s _ A n c ms B m d cs C k f as_ _ C0 (h1.below b0) (h2.below b0) (h3.below b0)).mono ?_
  rintro e w1 ⟨rfl, b1⟩
  go_wp2_with fail
  go_ret
  exact ⟨rfl, bel_trans b0 b1⟩
def szI (n : Nat) (left : Int) : Int := if left - n < 0 then -1 else left - n
theorem szInt64S_any (A : Option Addr) (n c : Nat) (left : Int) (w : World) (hn : n ≤ maxLen) (h0 : 0 ≤ left) (h1 : left ≤ 1048576) :
    Calls Try.prog 63 #[.slice A n c, .int .i64 left] w fun e w' => e = .returned (.int .i64 (szI n left)) ∧ w = w' := by
  unfold maxLen at hn
  by_cases h : left - n < 0
  · have R : Hid (szI n left = -1) := by show _ = _; simp [szI, h]
    go_enter Try.func63, Try.ntmps63
    go_wp2_with fail
    go_ret
    exact ⟨ret_int R.out.symm, rfl⟩
  · have R : Hid (szI n left = left - n) := by show _ = _; simp [szI, h]
    go_enter Try.func63, Try.ntmps63
    go_wp2_with fail
    go_ret
    exact ⟨ret_int R.out.symm, rfl⟩
def szBP (n m k : Nat) (left : Int) : Int := if szI n left < 0 then -1 else if szI m (szI n left) < 0 then -1 else szI k (szI m (szI n left))
theorem szI_le {n : Nat} {left : Int} (h : left ≤ 1048576) : szI n left ≤ 1048576 := by unfold szI; split <;> omega
theorem szI_small {n : Nat} {left : Int} (h : 0 ≤ szI n left) : (n : Int) ≤ left ∧ szI n left ≤ left := by unfold szI at *; split at h <;> omega
theorem szI_neg {n : Nat} {left : Int} (h : szI n left < 0) : szI n left = -1 := by unfold szI at *; split at h <;> omega
theorem szBitProof_any (A : Option Addr) (n c : Nat) (B : Option Addr) (m d : Nat) (C : Option Addr) (k f : Nat) (left : Int) (w : World) (hn : n ≤ maxLen) (hm : m ≤ maxLen) (hk : k ≤ maxLen) (h0 : 0 ≤ left) (h1 : left ≤ 1048576) :
    Calls Try.prog 17 #[.agg #[.slice A n c, .slice B m d, .slice C k f], .int .i64 left] w fun e w' => e = .returned (.int .i64 (szBP n m k left)) ∧ Below w.heap.size w w' := by
  have C0 := Cs.new w [.slice A n c, .slice B m d, .slice C k f] 35
  have b0 := bel_alloc w (.cells [.slice A n c, .slice B m d, .slice C k f].toArray 35)
  have q0a := C0.cell 0 rfl
  have q1a := C0.cell 1 rfl
  have q2a := C0.cell 2 rfl
  have lta := C0.1
  obtain ⟨x, hx⟩ : ∃ x, szI n left = x := ⟨_, rfl⟩
  obtain ⟨y, hy⟩ : ∃ y, szI m x = y := ⟨_, rfl⟩
  obtain ⟨z, hz⟩ : ∃ z, szI k y = z := ⟨_, rfl⟩
  have R : Hid (szBP n m k left = if x < 0 then -1 else if y < 0 then -1 else z) := by show _ = _; unfold szBP; rw [hx, hy, hz]
  have X := Lib.hid hx
  have Y := Lib.hid hy
  have Z := Lib.hid hz
  have bx : x ≤ 1048576 := by rw [← hx]; exact szI_le h1
  have by' : y ≤ 1048576 := by rw [← hy]; exact szI_le bx
  have nz : z < 0 → z = -1 := by rw [← hz]; exact szI_neg
  clear hx hy hz
  go_enter Try.func17, Try.ntmps17
  go_wp2_with fail
  refine (szInt64S_any A n c left _ hn h0 h1).mono ?_
  rintro e w1 ⟨rfl, rfl⟩
  rw [X.out]
  by_cases hx0 : x < 0
  · have R1 : Hid (szBP n m k left = -1) := by show _ = _; rw [R.out]; simp [hx0]
    clear R
    go_wp2_with fail
    go_ret
    exact ⟨ret_int R1.out.symm, b0⟩
  · go_wp2_with fail
    refine (szInt64S_any B m d x _ hm (by omega) bx).mono ?_
    rintro e w1 ⟨rfl, rfl⟩
    rw [Y.out]
    by_cases hy0 : y < 0
    · have R1 : Hid (szBP n m k left = -1) := by show _ = _; rw [R.out, if_neg (Int.not_lt.2 hx0), if_pos hy0]
      clear R
      go_wp2_with fail
      go_ret
      exact ⟨ret_int R1.out.symm, b0⟩
    · have R1 : Hid (szBP n m k left = z) := by show _ = _; rw [R.out, if_neg (Int.not_lt.2 hx0), if_neg hy0]
      clear R
      go_wp2_with fail
      refine (szInt64S_any C k f y _ hk (by omega) by').mono ?_
      rintro e w1 ⟨rfl, rfl⟩
      rw [Z.out]
      by_cases hz0 : z < 0
      · have e1 := nz hz0
        subst e1
        go_wp2_with fail
        go_ret
        exact ⟨ret_int R1.out.symm, b0⟩
      · go_wp2_with fail
        go_ret
        exact ⟨ret_int R1.out.symm, b0⟩
theorem eqBitProof_same (A : Option Addr) (n c : Nat) (ms : List Int) (B : Option Addr) (m d : Nat) (cs : List Int) (C : Option Addr) (k f : Nat) (as_ : List Int)
    (A' : Option Addr) (c' : Nat) (B' : Option Addr) (d' : Nat) (C' : Option Addr) (f' : Nat) (w : World)
    (h1 : Ints .i64 w A n c ms) (h2 : Ints .i64 w B m d cs) (h3 : Ints .i64 w C k f as_)
    (k1 : Ints .i64 w A' n c' ms) (k2 : Ints .i64 w B' m d' cs) (k3 : Ints .i64 w C' k f' as_) :
    Calls Try.prog 20 #[.agg #[.slice A n c, .slice B m d, .slice C k f], .agg #[.slice A' n c', .slice B' m d', .slice C' k f']] w fun e w' => e = .returned (.bool true) ∧ Below w.heap.size w w' := by
  have C0 := Cs.new w [.slice A n c, .slice B m d, .slice C k f] 31
  have b0 := bel_alloc w (.cells [.slice A n c, .slice B m d, .slice C k f].toArray 31)
  have D0 := Lib.hid (Cs.new (w.alloc (.cells [.slice A n c, .slice B m d, .slice C k f].toArray 31)) [.slice A' n c', .slice B' m d', .slice C' k f'] 31)
  have b1 := bel_trans b0 (bel_alloc _ (.cells [.slice A' n c', .slice B' m d', .slice C' k f'].toArray 31))
  have D1 := D0.out
  rw [show (w.alloc (.cells [.slice A n c, .slice B m d, .slice C k f].toArray 31)).heap.size = w.heap.size + 1 by simp] at D1
  have C1 := C0.alloc (.cells [.slice A' n c', .slice B' m d', .slice C' k f'].toArray 31)
  go_enter Try.func20, Try.ntmps20
  go_wp2_with fail
  refine (eqInt64S_any A n c ms A' n c' ms _ (h1.below b1) (k1.below b1)).mono ?_
  rintro e w1 ⟨rfl, b2⟩
  have C2 := C1.below b2
  have D2 := D1.below b2
  have b3 := bel_trans b1 b2
  have q0a := C2.cell 0 rfl
  have q1a := C2.cell 1 rfl
  have q2a := C2.cell 2 rfl
  have lta := C2.1
  have q0b := D2.cell 0 rfl
  have q1b := D2.cell 1 rfl
  have q2b := D2.cell 2 rfl
  have ltb := D2.1
  rw [show decide (ms = ms) = true by simp]
  go_wp2_with fail
  refine (eqInt64S_any B m d cs B' m d' cs _ (h2.below b3) (k2.below b3)).mono ?_
  rintro e w2 ⟨rfl, b4⟩
  have C4 := C2.below b4
  have D4 := D2.below b4
  have b5 := bel_trans b3 b4
  have q0c := C4.cell 0 rfl
  have q1c := C4.cell 1 rfl
  have q2c := C4.cell 2 rfl
  have ltc := C4.1
  have q0d := D4.cell 0 rfl
  have q1d := D4.cell 1 rfl
  have q2d := D4.cell 2 rfl
  have ltd := D4.1
  rw [show decide (cs = cs) = true by simp]
  go_wp2_with fail
  refine (eqInt64S_any C k f as_ C' k f' as_ _ (h3.below b5) (k3.below b5)).mono ?_
  rintro e w3 ⟨rfl, b6⟩
  have b7 := bel_trans b5 b6
  rw [show decide (as_ = as_) = true by simp]
  go_wp2_with fail
  go_ret
  exact ⟨rfl, b7⟩
def NewI (w : World) (base : Nat) (A : Option Addr) (n c : Nat) (zs : List Int) : Prop := Ints .i64 w A n c zs ∧ (0 < n → ∃ b, A = some ⟨b, 0, none⟩ ∧ base ≤ b)
theorem OwnI.newI {w : World} {base : Nat} {A : Option Addr} {n c : Nat} {zs : List Int} (h : OwnI w base A n c zs) : NewI w base A n c zs :=
  ⟨h.ints, fun hn => by obtain ⟨g, h1, h2, _⟩ := h.form hn; exact ⟨g, h1, h2⟩⟩
theorem NewI.below {w w' : World} {base : Nat} {A : Option Addr} {n c : Nat} {zs : List Int} (h : NewI w base A n c zs) (hb : Below w.heap.size w w') : NewI w' base A n c zs := ⟨h.1.below hb, h.2⟩
theorem NewI.far {w : World} {base : Nat} {A : Option Addr} {n c : Nat} {zs : List Int} (h : NewI w base A n c zs) {g : Nat} (hg : g < base) (j : Nat) (u : Value) : NewI (w.setCell ⟨g, j, none⟩ u) base A n c zs := by
  obtain ⟨⟨h1, h2, h3, h4, h5⟩, h6⟩ := h
  refine ⟨⟨h1, h2, h3, h4, fun hn => ?_⟩, h6⟩
  obtain ⟨b, off, e, hb, hc⟩ := h5 hn
  obtain ⟨b', e', hb'⟩ := h6 hn
  have hne : b ≠ g := by rw [e] at e'; simp at e'; omega
  refine ⟨b, off, e, by simpa [World.setCell] using hb, fun i z hi => ?_⟩
  rw [World.cell?_setCell_other _ _ _ _ (fun e => hne (by injection e with e1; exact e1.symm))]
  exact hc i z hi
theorem NewI.mono {w : World} {base b2 : Nat} {A : Option Addr} {n c : Nat} {zs : List Int} (h : NewI w base A n c zs) (hb : b2 ≤ base) : NewI w b2 A n c zs := ⟨h.1, fun hn => by obtain ⟨b, h1, h2⟩ := h.2 hn; exact ⟨b, h1, Nat.le_trans hb h2⟩⟩
theorem toBitProof_new (A : Option Addr) (n c : Nat) (ms : List Int) (B : Option Addr) (m d : Nat) (cs : List Int) (C : Option Addr) (k f : Nat) (as_ : List Int) (w : World)
    (h1 : Ints .i64 w A n c ms) (h2 : Ints .i64 w B m d cs) (h3 : Ints .i64 w C k f as_) (n1 : n ≤ 1048576) (n2 : m ≤ 1048576) (n3 : k ≤ 1048576) :
    Calls Try.prog 19 #[.agg #[.slice A n c, .slice B m d, .slice C k f]] w fun e w' => ∃ A' c' B' d' C' f', e = .returned (.agg #[.slice A' n c', .slice B' m d', .slice C' k f']) ∧
      NewI w' w.heap.size A' n c' ms ∧ NewI w' w.heap.size B' m d' cs ∧ NewI w' w.heap.size C' k f' as_ ∧ Below w.heap.size w w' := by
  have l1 := h1.1
  have l2 := h2.1
  have l3 := h3.1
  obtain ⟨w3, hw3⟩ : ∃ w3, ((w.alloc (.cells [.slice A n c, .slice B m d, .slice C k f].toArray 35)).alloc (.cells [.slice none 0 0, .slice none 0 0, .slice none 0 0].toArray 31)).alloc (.cells [.slice none 0 0, .slice none 0 0, .slice none 0 0].toArray 31) = w3 := ⟨_, rfl⟩
  have C0 := ((Cs.new w [.slice A n c, .slice B m d, .slice C k f] 35).alloc (.cells [.slice none 0 0, .slice none 0 0, .slice none 0 0].toArray 31)).alloc (.cells [.slice none 0 0, .slice none 0 0, .slice none 0 0].toArray 31)
  have D0 := (Cs.new (w.alloc (.cells [.slice A n c, .slice B m d, .slice C k f].toArray 35)) [.slice none 0 0, .slice none 0 0, .slice none 0 0] 31).alloc (.cells [.slice none 0 0, .slice none 0 0, .slice none 0 0].toArray 31)
  have E0 := Cs.new ((w.alloc (.cells [.slice A n c, .slice B m d, .slice C k f].toArray 35)).alloc (.cells [.slice none 0 0, .slice none 0 0, .slice none 0 0].toArray 31)) [.slice none 0 0, .slice none 0 0, .slice none 0 0] 31
  have bz := bel_trans (bel_alloc w (.cells [.slice A n c, .slice B m d, .slice C k f].toArray 35)) (bel_trans (bel_alloc (w.alloc (.cells [.slice A n c, .slice B m d, .slice C k f].toArray 35)) (.cells [.slice none 0 0, .slice none 0 0, .slice none 0 0].toArray 31)) (bel_alloc ((w.alloc (.cells [.slice A n c, .slice B m d, .slice C k f].toArray 35)).alloc (.cells [.slice none 0 0, .slice none 0 0, .slice none 0 0].toArray 31)) (.cells [.slice none 0 0, .slice none 0 0, .slice none 0 0].toArray 31)))
  rw [hw3] at C0 D0 E0 bz
  rw [show ((w.alloc (.cells [.slice A n c, .slice B m d, .slice C k f].toArray 35)).alloc (.cells [.slice none 0 0, .slice none 0 0, .slice none 0 0].toArray 31)).heap.size = w.heap.size + 1 + 1 by simp] at E0
  rw [show (w.alloc (.cells [.slice A n c, .slice B m d, .slice C k f].toArray 35)).heap.size = w.heap.size + 1 by simp] at D0
  have HW := Lib.hid hw3
  clear hw3
  go_enter Try.func19, Try.ntmps19
  go_wp2_with fail
  rw [show ((w.alloc (.cells #[.slice A n c, .slice B m d, .slice C k f] 35)).alloc (.cells #[.slice none 0 0, .slice none 0 0, .slice none 0 0] 31)).alloc (.cells #[.slice none 0 0, .slice none 0 0, .slice none 0 0] 31) = w3 from HW.out]
  refine (toInt64S_any A n c ms _ (h1.below bz) n1).mono ?_
  rintro e w4 ⟨A', c', rfl, o1, b4⟩
  rw [l1]
  rw [l1] at o1
  have C4 := C0.below b4
  have D4 := D0.below b4
  have E4 := E0.below b4
  have q0a := C4.cell 0 rfl
  have q1a := C4.cell 1 rfl
  have q2a := C4.cell 2 rfl
  have f0a := C4.free 0 rfl
  have f1a := C4.free 1 rfl
  have f2a := C4.free 2 rfl
  have lta := C4.1
  have q0b := D4.cell 0 rfl
  have q1b := D4.cell 1 rfl
  have q2b := D4.cell 2 rfl
  have f0b := D4.free 0 rfl
  have f1b := D4.free 1 rfl
  have f2b := D4.free 2 rfl
  have ltb := D4.1
  have q0c := E4.cell 0 rfl
  have q1c := E4.cell 1 rfl
  have q2c := E4.cell 2 rfl
  have f0c := E4.free 0 rfl
  have f1c := E4.free 1 rfl
  have f2c := E4.free 2 rfl
  have ltc := E4.1
  go_wp2_with fail
  obtain ⟨s5, hs5⟩ : ∃ s, w4.setCell ⟨w.heap.size + 1 + 1, 0, none⟩ (.slice A' n c') = s := ⟨_, rfl⟩
  rw [hs5]
  have C5 := C4.far (g' := w.heap.size + 1 + 1) (by omega) 0 (.slice A' n c')
  have D5 := D4.far (g' := w.heap.size + 1 + 1) (by omega) 0 (.slice A' n c')
  have E5 := E4.set 0 (.slice A' n c') (by simp)
  have b5 := (bel_trans bz b4).setCell (p := ⟨w.heap.size + 1 + 1, 0, none⟩) (show w.heap.size ≤ w.heap.size + 1 + 1 by omega) (.slice A' n c')
  rw [hs5] at C5 D5 E5 b5
  have N1 := o1.newI.far (g := w.heap.size + 1 + 1) E0.1 0 (.slice A' n c')
  rw [hs5] at N1
  have z5 : w.heap.size + 1 + 1 < s5.heap.size := E5.1
  clear hs5
  refine (toInt64S_any B m d cs _ (h2.below b5) n2).mono ?_
  rintro e w6 ⟨B', d', rfl, o2, b6⟩
  rw [l2]
  rw [l2] at o2
  have C6 := C5.below b6
  have D6 := D5.below b6
  have E6 := E5.below b6
  have q0d := C6.cell 0 rfl
  have q1d := C6.cell 1 rfl
  have q2d := C6.cell 2 rfl
  have f0d := C6.free 0 rfl
  have f1d := C6.free 1 rfl
  have f2d := C6.free 2 rfl
  have ltd := C6.1
  have q0e := D6.cell 0 rfl
  have q1e := D6.cell 1 rfl
  have q2e := D6.cell 2 rfl
  have f0e := D6.free 0 rfl
  have f1e := D6.free 1 rfl
  have f2e := D6.free 2 rfl
  have lte := D6.1
  have q0f := E6.cell 0 rfl
  have q1f := E6.cell 1 rfl
  have q2f := E6.cell 2 rfl
  have f0f := E6.free 0 rfl
  have f1f := E6.free 1 rfl
  have f2f := E6.free 2 rfl
  have ltf := E6.1
  go_wp2_with fail
  obtain ⟨s7, hs7⟩ : ∃ s, w6.setCell ⟨w.heap.size + 1 + 1, 1, none⟩ (.slice B' m d') = s := ⟨_, rfl⟩
  rw [hs7]
  have C7 := C6.far (g' := w.heap.size + 1 + 1) (by omega) 1 (.slice B' m d')
  have D7 := D6.far (g' := w.heap.size + 1 + 1) (by omega) 1 (.slice B' m d')
  have E7 := E6.set 1 (.slice B' m d') (by simp)
  have b7 := (bel_trans b5 b6).setCell (p := ⟨w.heap.size + 1 + 1, 1, none⟩) (show w.heap.size ≤ w.heap.size + 1 + 1 by omega) (.slice B' m d')
  rw [hs7] at C7 D7 E7 b7
  have M1 := (N1.below b6).far (g := w.heap.size + 1 + 1) E0.1 1 (.slice B' m d')
  have N2 := o2.newI.far (g := w.heap.size + 1 + 1) z5 1 (.slice B' m d')
  rw [hs7] at M1 N2
  have z7 : w.heap.size + 1 + 1 < s7.heap.size := E7.1
  clear hs7
  refine (toInt64S_any C k f as_ _ (h3.below b7) n3).mono ?_
  rintro e w8 ⟨C', f', rfl, o3, b8⟩
  rw [l3]
  rw [l3] at o3
  have C8 := C7.below b8
  have D8 := D7.below b8
  have E8 := E7.below b8
  have q0g := C8.cell 0 rfl
  have q1g := C8.cell 1 rfl
  have q2g := C8.cell 2 rfl
  have f0g := C8.free 0 rfl
  have f1g := C8.free 1 rfl
  have f2g := C8.free 2 rfl
  have ltg := C8.1
  have q0h := D8.cell 0 rfl
  have q1h := D8.cell 1 rfl
  have q2h := D8.cell 2 rfl
  have f0h := D8.free 0 rfl
  have f1h := D8.free 1 rfl
  have f2h := D8.free 2 rfl
  have lth := D8.1
  have q0i := E8.cell 0 rfl
  have q1i := E8.cell 1 rfl
  have q2i := E8.cell 2 rfl
  have f0i := E8.free 0 rfl
  have f1i := E8.free 1 rfl
  have f2i := E8.free 2 rfl
  have lti := E8.1
  have K1 := (M1.below b8).far (g := w.heap.size + 1 + 1) E0.1 2 (.slice C' k f')
  have K2 := (N2.below b8).far (g := w.heap.size + 1 + 1) z5 2 (.slice C' k f')
  have K3 := o3.newI.far (g := w.heap.size + 1 + 1) z7 2 (.slice C' k f')
  have b9 := (bel_trans b7 b8).setCell (p := ⟨w.heap.size + 1 + 1, 2, none⟩) (show w.heap.size ≤ w.heap.size + 1 + 1 by omega) (.slice C' k f')
  have D9 := (((D8.far (g' := w.heap.size + 1 + 1) (by omega) 2 (.slice C' k f')).set 0 (.slice A' n c') (by simp)).set 1 (.slice B' m d') (by simp)).set 2 (.slice C' k f') (by simp)
  have y1 : w.heap.size + 1 < w3.heap.size := by have := E0.1; omega
  have y5 : w.heap.size + 1 < s5.heap.size := by omega
  have y7 : w.heap.size + 1 < s7.heap.size := by omega
  have F1 := ((K1.far (g := w.heap.size + 1) y1 0 (.slice A' n c')).far (g := w.heap.size + 1) y1 1 (.slice B' m d')).far (g := w.heap.size + 1) y1 2 (.slice C' k f')
  have F2 := ((K2.far (g := w.heap.size + 1) y5 0 (.slice A' n c')).far (g := w.heap.size + 1) y5 1 (.slice B' m d')).far (g := w.heap.size + 1) y5 2 (.slice C' k f')
  have F3 := ((K3.far (g := w.heap.size + 1) y7 0 (.slice A' n c')).far (g := w.heap.size + 1) y7 1 (.slice B' m d')).far (g := w.heap.size + 1) y7 2 (.slice C' k f')
  have G := ((b9.setCell (p := ⟨w.heap.size + 1, 0, none⟩) (show w.heap.size ≤ w.heap.size + 1 by omega) (.slice A' n c')).setCell (p := ⟨w.heap.size + 1, 1, none⟩) (show w.heap.size ≤ w.heap.size + 1 by omega) (.slice B' m d')).setCell (p := ⟨w.heap.size + 1, 2, none⟩) (show w.heap.size ≤ w.heap.size + 1 by omega) (.slice C' k f')
  go_wp2_with fail
  obtain ⟨w9, hw9⟩ : ∃ w9, (((w8.setCell ⟨w.heap.size + 1 + 1, 2, none⟩ (.slice C' k f')).setCell ⟨w.heap.size + 1, 0, none⟩ (.slice A' n c')).setCell ⟨w.heap.size + 1, 1, none⟩ (.slice B' m d')).setCell ⟨w.heap.size + 1, 2, none⟩ (.slice C' k f') = w9 := ⟨_, rfl⟩
  rw [hw9] at D9 F1 F2 F3 G ⊢
  have x0 := D9.cell 0 (v := .slice A' n c') (by simp)
  have x1 := D9.cell 1 (v := .slice B' m d') (by simp)
  have x2 := D9.cell 2 (v := .slice C' k f') (by simp)
  exact bodyPost_ret (v := .agg #[.slice A' n c', .slice B' m d', .slice C' k f']) (by simp [results, Try.results19, go_sem, x0, x1, x2]) rfl ⟨A', c', B', d', C', f', rfl, F1.mono (by omega), F2.mono (by omega), F3.mono (by omega), G⟩
theorem toBitProof_any (A : Option Addr) (n c : Nat) (ms : List Int) (B : Option Addr) (m d : Nat) (cs : List Int) (C : Option Addr) (k f : Nat) (as_ : List Int) (w : World)
    (h1 : Ints .i64 w A n c ms) (h2 : Ints .i64 w B m d cs) (h3 : Ints .i64 w C k f as_) (n1 : n ≤ 1048576) (n2 : m ≤ 1048576) (n3 : k ≤ 1048576) :
    Calls Try.prog 19 #[.agg #[.slice A n c, .slice B m d, .slice C k f]] w fun e w' => ∃ A' c' B' d' C' f', e = .returned (.agg #[.slice A' n c', .slice B' m d', .slice C' k f']) ∧
      Ints .i64 w' A' n c' ms ∧ Ints .i64 w' B' m d' cs ∧ Ints .i64 w' C' k f' as_ ∧ Below w.heap.size w w' :=
  (toBitProof_new A n c ms B m d cs C k f as_ w h1 h2 h3 n1 n2 n3).mono fun e w' ⟨A', c', B', d', C', f', he, i1, i2, i3, b⟩ => ⟨A', c', B', d', C', f', he, i1.1, i2.1, i3.1, b⟩
end Go.Proofs.Ytnjnngnagdhaiaa
