/- The laws' helpers on frames: size, copy, compare, mark. -/
import Derived.Test.YteejfjgofpolkaaRwsLaw
import Derived.Test.YteejfjgofpolkaaCells
import Derived.Test.YteejfjgofpolkaaSealWalks
import Derived.Deep.QuietTactic
namespace Go.Proofs.Yteejfjgofpolkaa
set_option linter.unusedVariables false
set_option linter.unusedSimpArgs false
set_option maxRecDepth 100000
open Go.RowKit
theorem Cs.onlyF {w w' : World} {g : Nat} {l : List Value} {lo hi : Nat} (h : Cs w g l) (o : Only lo hi w w') (hd : g < lo ∨ hi ≤ g) : Cs w' g l :=
  ⟨Nat.lt_of_lt_of_le h.1 o.size, fun j v hj => ⟨(World.cell?_of_block (w := w) (o.block g h.1 hd)).trans (h.2 j v hj).1, (World.frozen?_of_block (w := w) (o.block g h.1 hd)).trans (h.2 j v hj).2⟩⟩
theorem only_cell (w : World) (g j : Nat) (u : Value) : Only g (g + 1) w (w.setCell ⟨g, j, none⟩ u) :=
  ⟨rfl, rfl, rfl, by simp [World.setCell], fun k _ hk => heap_setCell_other w ⟨g, j, none⟩ k u (by intro e; simp at e; omega)⟩
theorem OwnM.far {w : World} {base : Nat} {A : Option Addr} {n c : Nat} {vs : List Value} {zss : List (List Int)} (h : OwnM w base A n c vs zss) {g : Nat} (hg : g < base) (j : Nat) (u : Value) : OwnM (w.setCell ⟨g, j, none⟩ u) base A n c vs zss :=
  h.only (only_cell w g j u) (fun x hx => by have := h.block x hx; omega) (fun v hv x hx => by have := h.blocks v hv x hx; omega)
theorem szM_rows {n : Nat} {zss : List (List Int)} {r : Int} (h : SzM n zss 1048576 r) (hd : ¬ r < 0) : (n ≤ 1048576 ∧ totL zss ≤ 1048576) ∧ ∀ zs ∈ zss, zs.length ≤ 1048576 := by
  rcases h with h | ⟨h1, h2, h3, h4⟩
  · omega
  · refine ⟨⟨by omega, by omega⟩, fun zs hz => ?_⟩
    have := len_le_tot hz
    omega
set_option maxHeartbeats 1000000 in
theorem toFrame_any (cnt : Int) (A : Option Addr) (n c : Nat) (rows : List (List Int)) (w : World) (h : Rws w A n c rows) (hn : n ≤ 1048576) (hr : ∀ zs ∈ rows, zs.length ≤ 1048576) :
    Calls Try.prog 19 #[.agg #[.int .i64 cnt, .slice A n c]] w fun e w' => ∃ A' c' vs, e = .returned (.agg #[.int .i64 cnt, .slice A' rows.length c']) ∧ OwnM w' w.heap.size A' rows.length c' vs rows ∧ Below w.heap.size w w' := by
  have HR := Lib.hid hr
  clear hr
  obtain ⟨s3, hs3⟩ : ∃ s, ((w.alloc (.cells [.int .i64 cnt, .slice A n c].toArray 32)).alloc (.cells [.int .i64 0, .slice none 0 0].toArray 26)).alloc (.cells [.int .i64 cnt, .slice none 0 0].toArray 26) = s := ⟨_, rfl⟩
  have C3 := ((Cs.new w [.int .i64 cnt, .slice A n c] 32).alloc (.cells [.int .i64 0, .slice none 0 0].toArray 26)).alloc (.cells [.int .i64 cnt, .slice none 0 0].toArray 26)
  have D3 := (Cs.new (w.alloc (.cells [.int .i64 cnt, .slice A n c].toArray 32)) [.int .i64 0, .slice none 0 0] 26).alloc (.cells [.int .i64 cnt, .slice none 0 0].toArray 26)
  have E3 := Cs.new ((w.alloc (.cells [.int .i64 cnt, .slice A n c].toArray 32)).alloc (.cells [.int .i64 0, .slice none 0 0].toArray 26)) [.int .i64 cnt, .slice none 0 0] 26
  have b3 := bel_trans (bel_alloc w (.cells [.int .i64 cnt, .slice A n c].toArray 32)) (bel_trans (bel_alloc (w.alloc (.cells [.int .i64 cnt, .slice A n c].toArray 32)) (.cells [.int .i64 0, .slice none 0 0].toArray 26)) (bel_alloc ((w.alloc (.cells [.int .i64 cnt, .slice A n c].toArray 32)).alloc (.cells [.int .i64 0, .slice none 0 0].toArray 26)) (.cells [.int .i64 cnt, .slice none 0 0].toArray 26)))
  rw [hs3] at C3 D3 E3 b3
  rw [show ((w.alloc (.cells [.int .i64 cnt, .slice A n c].toArray 32)).alloc (.cells [.int .i64 0, .slice none 0 0].toArray 26)).heap.size = w.heap.size + 1 + 1 by simp] at E3
  rw [show (w.alloc (.cells [.int .i64 cnt, .slice A n c].toArray 32)).heap.size = w.heap.size + 1 by simp] at D3
  have HS := Lib.hid hs3
  clear hs3
  go_enter Try.func19, Try.ntmps19
  go_wp2_with (fail)
  rw [show ((w.alloc (.cells #[.int .i64 cnt, .slice A n c] 32)).alloc (.cells #[.int .i64 0, .slice none 0 0] 26)).alloc (.cells #[.int .i64 cnt, .slice none 0 0] 26) = s3 from HS.out]
  refine (toInt64SS_any A n c rows _ (h.below b3) hn HR.out).mono ?_
  rintro e w4 ⟨A', c', vs, rfl, o, b4⟩
  have C4 := C3.below b4
  have D4 := D3.below b4
  have E4 := E3.below b4
  have z4 : w.heap.size + 1 + 1 < s3.heap.size := E3.1
  have E5 := E4.set 1 (.slice A' rows.length c') (by simp)
  have D5 := D4.far (g' := w.heap.size + 1 + 1) (by omega) 1 (.slice A' rows.length c')
  have D6 := (D5.set 0 (.int .i64 cnt) (by simp)).set 1 (.slice A' rows.length c') (by simp)
  have O6 := Lib.hid (((o.far (g := w.heap.size + 1 + 1) z4 1 (.slice A' rows.length c')).far (g := w.heap.size + 1) (by omega) 0 (.int .i64 cnt)).far (g := w.heap.size + 1) (by omega) 1 (.slice A' rows.length c'))
  have B6 := Lib.hid ((((bel_trans b3 b4).setCell (p := ⟨w.heap.size + 1 + 1, 1, none⟩) (show w.heap.size ≤ w.heap.size + 1 + 1 by omega) (.slice A' rows.length c')).setCell (p := ⟨w.heap.size + 1, 0, none⟩) (show w.heap.size ≤ w.heap.size + 1 by omega) (.int .i64 cnt)).setCell (p := ⟨w.heap.size + 1, 1, none⟩) (show w.heap.size ≤ w.heap.size + 1 by omega) (.slice A' rows.length c'))
  have x0 := E5.cell 0 (v := .int .i64 cnt) (by simp)
  have x1 := E5.cell 1 (v := .slice A' rows.length c') (by simp)
  have g1 := E4.free 1 (v := .slice none 0 0) (by simp)
  have p1 := E4.cell 1 (v := .slice none 0 0) (by simp)
  have y0 := D5.cell 0 rfl
  have y1 := D5.cell 1 rfl
  have h0 := D5.free 0 rfl
  have h1 := D5.free 1 rfl
  have HD := Lib.hid D6
  clear D6 o C4
  go_wp2_with fail
  obtain ⟨w9, hw9⟩ : ∃ w9, ((w4.setCell ⟨w.heap.size + 1 + 1, 1, none⟩ (.slice A' rows.length c')).setCell ⟨w.heap.size + 1, 0, none⟩ (.int .i64 cnt)).setCell ⟨w.heap.size + 1, 1, none⟩ (.slice A' rows.length c') = w9 := ⟨_, rfl⟩
  rw [hw9] at HD O6 B6 ⊢
  have k0 := HD.out.cell 0 (v := .int .i64 cnt) (by simp)
  have k1 := HD.out.cell 1 (v := .slice A' rows.length c') (by simp)
  exact bodyPost_ret (v := .agg #[.int .i64 cnt, .slice A' rows.length c']) (by simp [results, Try.results19, go_sem, k0, k1]) rfl ⟨A', c', vs, rfl, O6.out.mono (by omega), B6.out⟩
theorem szFrame_any (cnt : Int) (A : Option Addr) (n c : Nat) (rows : List (List Int)) (left : Int) (w : World) (h : Rws w A n c rows) (h0 : 0 ≤ left) (h1 : left ≤ 1048576) :
    Calls Try.prog 16 #[.agg #[.int .i64 cnt, .slice A n c], .int .i64 left] w fun e w' => ∃ r, e = .returned (.int .i64 r) ∧ SzM n rows left r ∧ Below w.heap.size w w' := by
  have b0 := bel_alloc w (.cells #[.int .i64 cnt, .slice A n c] 32)
  have C0 := Cs.new w [.int .i64 cnt, .slice A n c] 32
  have y1 := C0.cell 1 rfl
  have B0 := Lib.hid b0
  clear C0
  go_enter Try.func16, Try.ntmps16
  go_wp2_with fail
  refine (szInt64SS_any A n c rows _ _ (h.below B0.out) h0 h1).mono ?_
  rintro e w1 ⟨r, rfl, hr, rfl⟩
  have HR := Lib.hid hr
  clear hr
  by_cases hd : r < 0
  · have R : Hid (r = -1) := by rcases HR.out with e | e; exact e; omega
    go_wp2_with fail
    go_ret
    exact ⟨-1, rfl, .inl rfl, B0.out⟩
  · go_wp2_with fail
    go_ret
    exact ⟨r, rfl, HR.out, B0.out⟩
theorem eqFrame_same (cnt : Int) (A : Option Addr) (n c : Nat) (rows : List (List Int)) (B : Option Addr) (d : Nat) (w : World) (h : Rws w A n c rows) (k : Rws w B n d rows) :
    Calls Try.prog 24 #[.agg #[.int .i64 cnt, .slice A n c], .agg #[.int .i64 cnt, .slice B n d]] w fun e w' => e = .returned (.bool true) ∧ Below w.heap.size w w' := by
  have b0 := bel_trans (bel_alloc w (.cells #[.int .i64 cnt, .slice A n c] 26)) (bel_alloc (w.alloc (.cells #[.int .i64 cnt, .slice A n c] 26)) (.cells #[.int .i64 cnt, .slice B n d] 26))
  have C0 := (Cs.new w [.int .i64 cnt, .slice A n c] 26).alloc (.cells #[.int .i64 cnt, .slice B n d] 26)
  have D0 := Cs.new (w.alloc (.cells #[.int .i64 cnt, .slice A n c] 26)) [.int .i64 cnt, .slice B n d] 26
  rw [show (w.alloc (.cells #[.int .i64 cnt, .slice A n c] 26)).heap.size = w.heap.size + 1 by simp] at D0
  have y0 := C0.cell 0 rfl
  have y1 := C0.cell 1 rfl
  have z0 := D0.cell 0 rfl
  have z1 := D0.cell 1 rfl
  have B0 := Lib.hid b0
  clear C0 D0 b0
  go_enter Try.func24, Try.ntmps24
  go_wp2_with fail
  refine (eqInt64SS_same A n c rows B d _ (h.below B0.out) (k.below B0.out)).mono ?_
  rintro e w1 ⟨rfl, b1⟩
  have B1 := Lib.hid (bel_trans B0.out b1)
  go_wp2_with fail
  go_ret
  exact ⟨rfl, B1.out⟩
theorem markFrame_any (lo hi : Nat) (cnt : Int) (A : Option Addr) (n c : Nat) (vs : List Value) (rows : List (List Int)) (k : Int) (w : World) (h : MR lo hi w A n c vs rows) (hb : hi ≤ w.heap.size) (h0 : 0 ≤ k) (h1 : k ≤ 1048576000) (ht : totL rows ≤ 1048576000) (hn : n ≤ 1048576000) :
    Calls Try.prog 26 #[.agg #[.int .i64 cnt, .slice A n c], .int .i64 k] w fun e w' => e = .returned (.int .i64 (k + totL rows)) ∧ Only lo hi w w' := by
  have b0 := bel_alloc w (.cells #[.int .i64 cnt, .slice A n c] 26)
  have C0 := Cs.new w [.int .i64 cnt, .slice A n c] 26
  have y1 := C0.cell 1 rfl
  have B0 := Lib.hid b0
  clear C0 b0
  go_enter Try.func26, Try.ntmps26
  go_wp2_with fail
  refine (markInt64SS_any lo hi A n c vs rows k _ (h.below B0.out) h0 h1 ht hn).mono ?_
  rintro e w1 ⟨rfl, m, on, bs⟩
  have O := Lib.hid ((Only.of_below B0.out lo hi).trans on)
  clear m on bs
  go_wp2_with fail
  go_ret
  exact ⟨rfl, O.out⟩
end Go.Proofs.Yteejfjgofpolkaa
