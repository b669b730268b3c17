/- A variable of two cells that the call itself made. (Taken out of XRkDraw.) -/
import Derived.Test.YtiodbjfchfmlcaaSrc
namespace Go.Proofs.Ytiodbjfchfmlcaa
set_option linter.unusedVariables false
open Go.RowKit
/-- A variable of two cells that the call itself made. -/
def BO (t : TypeId) (w : World) (g : Nat) (u0 u1 : Value) : Prop := w.ownsRow g t 2 (.slice (some ⟨g, 0, none⟩) 1 1) 1 [u0, u1]
section
variable {t : TypeId} {w w' : World} {g : Nat} {u0 u1 : Value}
theorem BO.new (t : TypeId) (w : World) (u0 u1 : Value) : BO t (w.alloc (.cells #[u0, u1] t)) w.heap.size u0 u1 := by
  have := World.ownsRow_lit (base := w.heap.size) (e := t) (size := 2) w #[u0, u1] 1 (Nat.le_refl _) (by unfold maxLen; omega) rfl
  simpa [BO] using this
theorem BO.below (h : BO t w g u0 u1) (b : Below w.heap.size w w') : BO t w' g u0 u1 := World.ownsRow.kept (row := none) h ⟨b.os, b.tape, b.output, b.size, fun k hk _ => b.block k hk⟩ (.inr (by simp [Value.ownBlock]))
theorem BO.cells (h : BO t w g u0 u1) : w.cell? ⟨g, 0, none⟩ = some u0 ∧ w.cell? ⟨g, 1, none⟩ = some u1 := by
  have c0 := World.ownsRow.cellAt h 0 (by omega)
  have c1 := World.ownsRow.cellAt h 1 (by omega)
  exact ⟨c0, c1⟩
theorem BO.free (h : BO t w g u0 u1) (j : Nat) : w.frozen? ⟨g, j, none⟩ = false := World.ownsRow.frozenAt h j
theorem BO.lt (h : BO t w g u0 u1) : g < w.heap.size := (World.ownsRow.lt h g rfl).2
theorem BO.set0 (h : BO t w g u0 u1) (u : Value) : BO t (w.setCell ⟨g, 0, none⟩ u) g u u1 ∧ w.grownBy (w.setCell ⟨g, 0, none⟩ u) (some g) := World.ownsRow.stored h 0 u
theorem BO.set1 (h : BO t w g u0 u1) (u : Value) : BO t (w.setCell ⟨g, 1, none⟩ u) g u0 u ∧ w.grownBy (w.setCell ⟨g, 1, none⟩ u) (some g) := World.ownsRow.stored h 1 u
theorem BO.far (h : BO t w g u0 u1) {g2 : Nat} (hg : w.grownBy w' (some g2)) (hne : g ≠ g2) : BO t w' g u0 u1 := World.ownsRow.kept h hg (.inr (by simp [Value.ownBlock]; exact hne))
theorem BO.off (h : BO t w g u0 u1) {row : Option Nat} (hg : w.grownBy w' row) (hne : ∀ x, row = some x → g ≠ x) : BO t w' g u0 u1 := World.ownsRow.kept h hg (.inr (by
  simp only [Value.ownBlock]
  intro e
  exact hne g e.symm rfl))
theorem grown_set (w : World) (g j : Nat) (u : Value) : w.grownBy (w.setCell ⟨g, j, none⟩ u) (some g) := ⟨rfl, rfl, rfl, by simp [World.setCell], fun k _ hk => heap_setCell_other w ⟨g, j, none⟩ k u (fun e => hk (by simp [e]))⟩
theorem size_put (w : World) (g j : Nat) (u : Value) : (w.setCell ⟨g, j, none⟩ u).heap.size = w.heap.size := by simp [World.setCell]
theorem le_put {w : World} {n gP : Nat} {v : Value} (h : n ≤ w.heap.size) : n ≤ (w.setCell ⟨gP, 0, none⟩ v).heap.size := by rw [size_put]; exact h
theorem BO.keep (h : BO t w g u0 u1) {base e s n k : Nat} {v : Value} {xs : List Value} (o : w.ownsRow base e s v k xs) (hg : w.grownBy w' v.ownBlock) (hne : t ≠ e) : BO t w' g u0 u1 := World.ownsRow.kept h hg (own_ne h o hne)
theorem BO.keeps (h : BO t w g u0 u1) {base e s n k : Nat} {v : Value} {xs : List Value} (o : w.ownsRow base e s v k xs) (hg : w.grownBy w' (some g)) (hne : e ≠ t) : w'.ownsRow base e s v k xs := o.kept hg (own_ne o h hne)
end
end Go.Proofs.Ytiodbjfchfmlcaa
