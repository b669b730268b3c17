/- The cells of a block that the call made, kept over calls that leave old memory alone. -/
import Derived.Test.YteehbnanjgmliaaDoorMark
namespace Go.Proofs.YteehbnanjgmliaaDoor
set_option linter.unusedVariables false
open Go.RowKit
/-- Block g reads as the values l from its head on, and may be written. -/
def Cs (w : World) (g : Nat) (l : List Value) : Prop := g < w.heap.size ∧ ∀ j v, l[j]? = some v → w.cell? ⟨g, j, none⟩ = some v ∧ w.frozen? ⟨g, j, none⟩ = false
theorem Cs.new (w : World) (l : List Value) (t : TypeId) : Cs (w.alloc (.cells l.toArray t)) w.heap.size l :=
  ⟨by simp, fun j v h => ⟨by rw [World.cell?_alloc_at _ _ _ _ rfl]; simpa using h, World.frozen?_alloc_at _ _ _ _ rfl⟩⟩
theorem Cs.below {w w' : World} {g : Nat} {l : List Value} (h : Cs w g l) (hb : Below w.heap.size w w') : Cs w' g l :=
  ⟨Nat.lt_of_lt_of_le h.1 hb.size, fun j v hj => ⟨(hb.cell (p := ⟨g, j, none⟩) h.1).trans (h.2 j v hj).1, (hb.frozen (p := ⟨g, j, none⟩) h.1).trans (h.2 j v hj).2⟩⟩
theorem Cs.cell {w : World} {g : Nat} {l : List Value} (h : Cs w g l) (j : Nat) {v : Value} (hj : l[j]? = some v) : w.cell? ⟨g, j, none⟩ = some v := (h.2 j v hj).1
theorem Cs.free {w : World} {g : Nat} {l : List Value} (h : Cs w g l) (j : Nat) {v : Value} (hj : l[j]? = some v) : w.frozen? ⟨g, j, none⟩ = false := (h.2 j v hj).2
theorem Cs.kept {w w' : World} {g : Nat} {l : List Value} {row : Option Nat} (h : Cs w g l) (hg : w.grownBy w' row) (hne : some g ≠ row) : Cs w' g l :=
  ⟨Nat.lt_of_lt_of_le h.1 hg.size, fun j v hj => ⟨(World.cell?_of_block (w := w) (hg.block g h.1 hne)).trans (h.2 j v hj).1, (World.frozen?_of_block (w := w) (hg.block g h.1 hne)).trans (h.2 j v hj).2⟩⟩
theorem Cs.set {w : World} {g : Nat} {l : List Value} (h : Cs w g l) (j : Nat) (u : Value) (hj : j < l.length) : Cs (w.setCell ⟨g, j, none⟩ u) g (l.set j u) := by
  refine ⟨by simpa [World.setCell] using h.1, fun i v hi => ⟨?_, ?_⟩⟩
  · by_cases e : j = i
    · subst e
      rw [List.getElem?_set_self hj] at hi
      injection hi with hi
      subst hi
      exact World.cell?_setCell_same w _ _ (h.2 j _ (List.getElem?_eq_getElem hj)).1
    · rw [List.getElem?_set_ne e] at hi
      rw [World.cell?_setCell_other _ _ _ _ (fun e' => e (by injection e' with _ e'))]
      exact (h.2 i v hi).1
  · rw [World.frozen?_setCell]
    have hil : i < l.length := by have := (List.getElem?_eq_some_iff.1 hi).1; simpa using this
    exact (h.2 i _ (List.getElem?_eq_getElem hil)).2
theorem Cs.far {w : World} {g g' : Nat} {l : List Value} (h : Cs w g l) (hne : g ≠ g') (j : Nat) (u : Value) : Cs (w.setCell ⟨g', j, none⟩ u) g l :=
  ⟨by simpa [World.setCell] using h.1, fun i v hi => ⟨by rw [World.cell?_setCell_other _ _ _ _ (fun e => hne (by injection e with e; exact e.symm))]; exact (h.2 i v hi).1, by rw [World.frozen?_setCell]; exact (h.2 i v hi).2⟩⟩
theorem Cs.ints {w : World} {g : Nat} {l : List Value} (h : Cs w g l) {n : Nat} (zs : List Int) (hl : l = vals zs) (hn : zs.length = n) (hm : n ≤ maxLen) (hz : ∀ z ∈ zs, -9223372036854775808 ≤ z ∧ z ≤ 9223372036854775807) : Ints .i64 w (some ⟨g, 0, none⟩) n n zs := by
  subst hl
  refine ⟨hn, Nat.le_refl _, hm, fun z h => WalkArith.wf_i64 (hz z h), fun _ => ⟨g, 0, rfl, h.1, fun j z hj => ?_⟩⟩
  rw [Nat.zero_add]
  exact h.cell j (by simp [vals, hj])
theorem Cs.drew {w : World} {g : Nat} {l : List Value} (h : Cs w g l) : Cs w.drew g l := h
theorem Cs.alloc {w : World} {g : Nat} {l : List Value} (h : Cs w g l) (o : Obj) : Cs (w.alloc o) g l := h.below (bel_alloc _ _)
end Go.Proofs.YteehbnanjgmliaaDoor
