/- A strategy that is drawn for a frame. -/
import Derived.Test.YteejfjgofpolkaaDrawStr2
namespace Go.Proofs.Yteejfjgofpolkaa
set_option linter.unusedVariables false
set_option linter.unusedSimpArgs false
set_option maxRecDepth 100000
open Go.RowKit Go.Deep
theorem R8Strategy_any (N : Nat) (es : List (Nat × Nat)) (ok : FrOk N es) (Q : Option Addr) (m d : Nat) (bA : Option Addr) (bn bc : Nat) (bs : List Int) (w : World) (h0 : Rws w Q m d (es.map erow)) (h : Ints .u8 w bA bn bc bs) :
    Calls Try.prog 38 #[.slice bA bn bc, .agg #[.int .i64 N, .slice Q m d]] w (DrawnS w) := by
  have b0 := bel_alloc w (.cells #[.int .i64 N, .slice Q m d] 26)
  have C0 := Cs.new w [.int .i64 N, .slice Q m d] 26
  have b1 := bel_alloc (w.alloc (.cells #[.int .i64 N, .slice Q m d] 26)) (.cells #[.slice none 0 0, .slice none 0 0] 39)
  have CR := Lib.hid (Cs.new (w.alloc (.cells #[.int .i64 N, .slice Q m d] 26)) [.slice none 0 0, .slice none 0 0] 39)
  have s0 : (w.alloc (.cells #[.int .i64 N, .slice Q m d] 26)).heap.size = w.heap.size + 1 := by simp
  have s1 : ((w.alloc (.cells #[.int .i64 N, .slice Q m d] 26)).alloc (.cells #[.slice none 0 0, .slice none 0 0] 39)).heap.size = w.heap.size + 2 := by simp
  rw [s0] at CR
  have B0 := Lib.hid (bel_trans b0 b1)
  have HC := Lib.hid (C0.below b1)
  have H0 := Lib.hid (h0.below (bel_trans b0 b1))
  have HS := Lib.hid (h.below (bel_trans b0 b1))
  have OK := Lib.hid ok
  clear b0 b1 C0 h0 h ok
  go_enter Try.func38, Try.ntmps38
  go_wp2_with fail
  obtain ⟨W0, hW0⟩ : ∃ z, (w.alloc (.cells #[.int .i64 N, .slice Q m d] 26)).alloc (.cells #[.slice none 0 0, .slice none 0 0] 39) = z := ⟨_, rfl⟩
  rw [hW0] at CR B0 HC H0 HS s1 ⊢
  clear hW0 s0
  refine (l00From_any bA bn bc bs _ HS.out).mono ?_
  rintro e w1 ⟨g, rfl, hg, hs, hb⟩
  have S1 := Lib.hid hs
  have B1 := Lib.hid hb
  clear hs hb
  go_wp2_with fail
  refine (l08DrawStrategy_any N es OK.out W0 w.heap.size Q m d HC.out H0.out g bA bn bc bs w1 B1.out hg S1.out).mono ?_
  rintro e w2 ⟨x, RA, nr, rc, R, YA, ny, yc, Y, hx, rfl, iR, iY, b2, a1, a2⟩
  have C2 := Lib.hid (CR.out.below b2)
  have f0 := C2.out.free 0 rfl
  have f1 := C2.out.free 1 rfl
  have p0 := C2.out.cell 0 rfl
  have p1 := C2.out.cell 1 rfl
  have K2 := Lib.hid ((C2.out.set 0 (.slice RA nr rc) (by simp)).set 1 (.slice YA ny yc) (by simp))
  have HX := Lib.hid hx
  have BB := Lib.hid (bel_trans B0.out (b2.mono (by omega)))
  have A1 := Lib.hid a1
  have A2 := Lib.hid a2
  have IR := Lib.hid iR
  have IY := Lib.hid iY
  clear hx iR iY b2 a1 a2
  go_wp2_with fail
  have g1 := grown_cell w2 (w.heap.size + 1) 0 (.slice RA nr rc)
  have g2 := grown_cell (w2.setCell ⟨w.heap.size + 1, 0, none⟩ (.slice RA nr rc)) (w.heap.size + 1) 1 (.slice YA ny yc)
  have ne : ∀ {A : Option Addr}, (∀ a, A = some a → W0.heap.size ≤ a.block) → ∀ a, A = some a → some a.block ≠ some (w.heap.size + 1) := fun h a ha e => by
    injection e with e
    have := h a ha
    omega
  have r0 := K2.out.cell 0 (v := .slice RA nr rc) (by simp)
  have r1 := K2.out.cell 1 (v := .slice YA ny yc) (by simp)
  exact bodyPost_ret (v := .tuple #[.int .i64 x, .agg #[.slice RA nr rc, .slice YA ny yc]]) (by simp [results, Try.results38, go_sem, r0, r1]) rfl ⟨x, RA, nr, rc, R, YA, ny, yc, Y, HX.out, rfl, (IR.out.kept g1 (ne A1.out)).kept g2 (ne A1.out), (IY.out.kept g1 (ne A2.out)).kept g2 (ne A2.out), (BB.out.setCell (p := ⟨w.heap.size + 1, 0, none⟩) (by show w.heap.size ≤ w.heap.size + 1; omega) _).setCell (p := ⟨w.heap.size + 1, 1, none⟩) (by show w.heap.size ≤ w.heap.size + 1; omega) _, fun a ha => by have := A1.out a ha; omega, fun a ha => by have := A2.out a ha; omega⟩
end Go.Proofs.Yteejfjgofpolkaa
