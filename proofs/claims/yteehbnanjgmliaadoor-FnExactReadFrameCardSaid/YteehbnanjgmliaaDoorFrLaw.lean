/- The laws' helpers on frames: size, copy, compare, mark. -/
import Derived.Test.YteehbnanjgmliaaDoorRwsLaw
import Derived.Test.YteehbnanjgmliaaDoorCells
import Derived.Test.YteehbnanjgmliaaDoorSealWalks
import Derived.Deep.QuietTactic
namespace Go.Proofs.YteehbnanjgmliaaDoor
set_option linter.unusedVariables false
set_option linter.unusedSimpArgs false
set_option maxRecDepth 100000
open Go.RowKit
theorem Cs.onlyF {w w' : World} {g : Nat} {l : List Value} {lo hi : Nat} (h : Cs w g l) (o : Only lo hi w w') (hd : g < lo ∨ hi ≤ g) : Cs w' g l :=
  ⟨Nat.lt_of_lt_of_le h.1 o.size, fun j v hj => ⟨(World.cell?_of_block (w := w) (o.block g h.1 hd)).trans (h.2 j v hj).1, (World.frozen?_of_block (w := w) (o.block g h.1 hd)).trans (h.2 j v hj).2⟩⟩
theorem only_cell (w : World) (g j : Nat) (u : Value) : Only g (g + 1) w (w.setCell ⟨g, j, none⟩ u) :=
  ⟨rfl, rfl, rfl, by simp [World.setCell], fun k _ hk => heap_setCell_other w ⟨g, j, none⟩ k u (by intro e; simp at e; omega)⟩
theorem OwnM.far {w : World} {base : Nat} {A : Option Addr} {n c : Nat} {vs : List Value} {zss : List (List Int)} (h : OwnM w base A n c vs zss) {g : Nat} (hg : g < base) (j : Nat) (u : Value) : OwnM (w.setCell ⟨g, j, none⟩ u) base A n c vs zss :=
  h.only (only_cell w g j u) (fun x hx => by have := h.block x hx; omega) (fun v hv x hx => by have := h.blocks v hv x hx; omega)
theorem eqFrame_same (cnt : Int) (A : Option Addr) (n c : Nat) (rows : List (List Int)) (B : Option Addr) (d : Nat) (w : World) (h : Rws w A n c rows) (k : Rws w B n d rows) :
    Calls Tryd.prog 6 #[.agg #[.int .i64 cnt, .slice A n c], .agg #[.int .i64 cnt, .slice B n d]] w fun e w' => e = .returned (.bool true) ∧ Below w.heap.size w w' := by
  have b0 := bel_trans (bel_alloc w (.cells #[.int .i64 cnt, .slice A n c] 24)) (bel_alloc (w.alloc (.cells #[.int .i64 cnt, .slice A n c] 24)) (.cells #[.int .i64 cnt, .slice B n d] 24))
  have C0 := (Cs.new w [.int .i64 cnt, .slice A n c] 24).alloc (.cells #[.int .i64 cnt, .slice B n d] 24)
  have D0 := Cs.new (w.alloc (.cells #[.int .i64 cnt, .slice A n c] 24)) [.int .i64 cnt, .slice B n d] 24
  rw [show (w.alloc (.cells #[.int .i64 cnt, .slice A n c] 24)).heap.size = w.heap.size + 1 by simp] at D0
  have y0 := C0.cell 0 rfl
  have y1 := C0.cell 1 rfl
  have z0 := D0.cell 0 rfl
  have z1 := D0.cell 1 rfl
  have B0 := Lib.hid b0
  clear C0 D0 b0
  go_enter Tryd.func6, Tryd.ntmps6
  go_wp2_with fail
  refine (eqInt64SS_same A n c rows B d _ (h.below B0.out) (k.below B0.out)).mono ?_
  rintro e w1 ⟨rfl, b1⟩
  have B1 := Lib.hid (bel_trans B0.out b1)
  go_wp2_with fail
  go_ret
  exact ⟨rfl, B1.out⟩
theorem markFrame_any (lo hi : Nat) (cnt : Int) (A : Option Addr) (n c : Nat) (vs : List Value) (rows : List (List Int)) (k : Int) (w : World) (h : MR lo hi w A n c vs rows) (hb : hi ≤ w.heap.size) (h0 : 0 ≤ k) (h1 : k ≤ 1048576000) (ht : totL rows ≤ 1048576000) (hn : n ≤ 1048576000) :
    Calls Tryd.prog 7 #[.agg #[.int .i64 cnt, .slice A n c], .int .i64 k] w fun e w' => e = .returned (.int .i64 (k + totL rows)) ∧ Only lo hi w w' := by
  have b0 := bel_alloc w (.cells #[.int .i64 cnt, .slice A n c] 24)
  have C0 := Cs.new w [.int .i64 cnt, .slice A n c] 24
  have y1 := C0.cell 1 rfl
  have B0 := Lib.hid b0
  clear C0 b0
  go_enter Tryd.func7, Tryd.ntmps7
  go_wp2_with fail
  refine (markInt64SS_any lo hi A n c vs rows k _ (h.below B0.out) h0 h1 ht hn).mono ?_
  rintro e w1 ⟨rfl, m, on, bs⟩
  have O := Lib.hid ((Only.of_below B0.out lo hi).trans on)
  clear m on bs
  go_wp2_with fail
  go_ret
  exact ⟨rfl, O.out⟩
end Go.Proofs.YteehbnanjgmliaaDoor
