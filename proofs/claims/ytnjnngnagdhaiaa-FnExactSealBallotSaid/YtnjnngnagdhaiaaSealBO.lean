/- The variable that holds the ballot while it is being made: a block of its own, by its type apart from the lists. -/
import Derived.Test.YtnjnngnagdhaiaaSealDef
namespace Go.Proofs.Ytnjnngnagdhaiaa
set_option linter.unusedVariables false
set_option maxRecDepth 100000
open Go.RowKit
def BO (w : World) (g : Nat) (u0 u1 u2 : Value) : Prop := w.ownsRow g 48 3 (.slice (some ⟨g, 0, none⟩) 1 1) 1 [u0, u1, u2]
theorem BO.new (w : World) (u0 u1 u2 : Value) : BO (w.alloc (.cells #[u0, u1, u2] 48)) w.heap.size u0 u1 u2 := by
  have := World.ownsRow_lit (base := w.heap.size) (e := 48) (size := 3) w #[u0, u1, u2] 1 (Nat.le_refl _) (by unfold maxLen; omega) rfl
  unfold BO
  simpa using this
section
variable {w w' : World} {g : Nat} {u0 u1 u2 : Value}
theorem BO.below (h : BO w g u0 u1 u2) (b : Below w.heap.size w w') : BO w' g u0 u1 u2 := World.ownsRow.kept (row := none) h ⟨b.os, b.tape, b.output, b.size, fun k hk _ => b.block k hk⟩ (.inr (by simp [Value.ownBlock]))
theorem BO.cells (h : BO w g u0 u1 u2) : w.cell? ⟨g, 0, none⟩ = some u0 ∧ w.cell? ⟨g, 1, none⟩ = some u1 ∧ w.cell? ⟨g, 2, none⟩ = some u2 := by
  have k := World.ownsRow.cells h (g := g) rfl
  have k0 := k 0 u0 rfl
  have k1 := k 1 u1 rfl
  have k2 := k 2 u2 rfl
  rw [Addr.add_lit, Nat.zero_add] at k0 k1 k2
  exact ⟨k0, k1, k2⟩
theorem BO.free (h : BO w g u0 u1 u2) (j : Nat) : w.frozen? ⟨g, j, none⟩ = false := World.ownsRow.frozenAt h j
theorem BO.lt (h : BO w g u0 u1 u2) : g < w.heap.size := (World.ownsRow.lt h g rfl).2
theorem BO.set0 (h : BO w g u0 u1 u2) (u : Value) : BO (w.setCell ⟨g, 0, none⟩ u) g u u1 u2 ∧ w.grownBy (w.setCell ⟨g, 0, none⟩ u) (some g) := World.ownsRow.stored h 0 u
theorem BO.set1 (h : BO w g u0 u1 u2) (u : Value) : BO (w.setCell ⟨g, 1, none⟩ u) g u0 u u2 ∧ w.grownBy (w.setCell ⟨g, 1, none⟩ u) (some g) := World.ownsRow.stored h 1 u
theorem BO.set2 (h : BO w g u0 u1 u2) (u : Value) : BO (w.setCell ⟨g, 2, none⟩ u) g u0 u1 u ∧ w.grownBy (w.setCell ⟨g, 2, none⟩ u) (some g) := World.ownsRow.stored h 2 u
/-- The ballot's lists are kept where the variable is written; the variable, where the seals' or the proofs' block is. -/
theorem PB.keep {lo : Nat} {A : Option Addr} {n c : Nat} {ss : List Int} {B : Option Addr} {m d : Nat} {hv : List Value} {ps : List Bp} (p : PB lo w A n c ss B m d hv ps) (h : BO w g u0 u1 u2) (hg : w.grownBy w' (some g)) : PB lo w' A n c ss B m d hv ps :=
  have keep : ∀ {B0 : Option Addr} {m0 d0 b0 : Nat} {us : List Int}, OwnI w b0 B0 m0 d0 us → OwnI w' b0 B0 m0 d0 us := fun hu => hu.kept hg (own_ne hu.1 h (by decide))
  ⟨keep p.own, p.hd.kept hg (own_ne p.hd h (by decide)), p.len, fun j zs e => by obtain ⟨A', c', e1, o⟩ := p.row j zs e; exact ⟨A', c', e1, keep o⟩, p.apart⟩
theorem BO.keepS (h : BO w g u0 u1 u2) {lo : Nat} {A : Option Addr} {n c : Nat} {ss : List Int} (o : OwnI w lo A n c ss) (hg : w.grownBy w' (Value.slice A n c).ownBlock) : BO w' g u0 u1 u2 := World.ownsRow.kept h hg (own_ne h o.1 (by decide))
theorem BO.keepP (h : BO w g u0 u1 u2) {lo : Nat} {B : Option Addr} {m d : Nat} {hv : List Value} (o : w.ownsRow lo 31 3 (.slice B m d) m hv) (hg : w.grownBy w' (Value.slice B m d).ownBlock) : BO w' g u0 u1 u2 := World.ownsRow.kept h hg (own_ne h o (by decide))
end
end Go.Proofs.Ytnjnngnagdhaiaa
