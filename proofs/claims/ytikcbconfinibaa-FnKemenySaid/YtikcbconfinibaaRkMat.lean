/- A square matrix of the call's own, read and written at one place. -/
import Derived.Test.YtikcbconfinibaaRkRaise
import Derived.Test.YtikcbconfinibaaRws
namespace Go.Proofs.Ytikcbconfinibaa
set_option linter.unusedVariables false
open Go.RowKit
/-- What is known of a row of a matrix that the call itself made. -/
structure RowAt (w : World) (base g gi ci n : Nat) (c : Nat) (vs : List Value) (M : Nat → Nat → Int) (i : Nat) : Prop where
  cell : w.cell? ⟨g, i, none⟩ = some (.slice (some ⟨gi, 0, none⟩) n ci)
  glt : g < w.heap.size
  lt : gi < w.heap.size
  ge : base ≤ gi
  ne : g ≠ gi
  at' : ∀ k, k < n → w.cell? ⟨gi, k, none⟩ = some (.int .i64 (M i k))
  free : ∀ k, w.frozen? ⟨gi, k, none⟩ = false
  put : ∀ (k : Nat) (v : Int), k < n → -9223372036854775808 ≤ v → v ≤ 9223372036854775807 → OwnM (w.setCell ⟨gi, k, none⟩ (.int .i64 v)) base (some ⟨g, 0, none⟩) n c vs (matF n fun a b => if a = i ∧ b = k then v else M a b)
theorem OwnM.rowAt {w : World} {base g n c : Nat} {vs : List Value} {M : Nat → Nat → Int} (h : OwnM w base (some ⟨g, 0, none⟩) n c vs (matF n M)) {i : Nat} (hi : i < n) : ∃ gi ci, RowAt w base g gi ci n c vs M i := by
  obtain ⟨g', A', c', zs, e, h1, h2, hz, hcell, ho, hv⟩ := h.at hi
  simp only [Option.some.injEq, Addr.mk.injEq, and_true] at e
  subst e
  have hz' := hz.out
  rw [matF_at M hi] at hz'
  injection hz' with hz'
  subst hz'
  rw [rowF_len] at hcell ho hv
  obtain ⟨gi, rfl, i1, i2⟩ := ho.form (by omega)
  have ne : g ≠ gi := fun e => by
    subst e
    rcases own_ne ho.1 h.outer (by decide) with q | q
    · simp [Value.ownBlock] at q
    · exact q rfl
  refine ⟨gi, c', hcell, h2, i2, i1, ne, fun k hk => ho.cell (rowF_at (M i) hk), fun k => ho.free k, fun k v hk v1 v2 => ?_⟩
  obtain ⟨s1, s2⟩ := ho.set k v v1 v2
  have := h.turn (j := i) (zs' := (rowF n (M i)).set k v) hv s1 ho s2
  rw [matF_put] at this
  exact this
end Go.Proofs.Ytikcbconfinibaa
