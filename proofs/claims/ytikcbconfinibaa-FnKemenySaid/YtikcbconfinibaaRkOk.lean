/- Valid profiles. No program. -/
import Derived.Test.YtikcbconfinibaaRkMat
import Derived.Test.YtikcbconfinibaaSetA
namespace Go.Proofs.Ytikcbconfinibaa
set_option linter.unusedVariables false
open Go.RowKit
def zr (r : List Nat) : List Int := r.map fun a : Nat => (a : Int)
theorem zr_len (r : List Nat) : (zr r).length = r.length := by simp [zr]
theorem zr_at {r : List Nat} {i x : Nat} (h : r[i]? = some x) : (zr r)[i]? = some (x : Int) := by simp [zr, h]
theorem zr_rev (r : List Nat) : zr r.reverse = (zr r).reverse := by simp [zr]
structure PrOk (n : Nat) (rs : List (List Nat)) (ws : List Int) : Prop where
  n1 : 1 ≤ n
  n6 : n ≤ 6
  m1 : 1 ≤ rs.length
  m12 : rs.length ≤ 12
  lw : ws.length = rs.length
  perm : ∀ r ∈ rs, r.Perm (List.range n)
  wt : ∀ z ∈ ws, 0 ≤ z ∧ z ≤ 1000
structure PrV (w : World) (RA : Option Addr) (rc : Nat) (WA : Option Addr) (wc : Nat) (rs : List (List Nat)) (ws : List Int) : Prop where
  rows : Rws w RA rs.length rc (rs.map zr)
  wts : Ints .i64 w WA rs.length wc ws
theorem PrV.below {w w' : World} {RA : Option Addr} {rc : Nat} {WA : Option Addr} {wc : Nat} {rs : List (List Nat)} {ws : List Int} (h : PrV w RA rc WA wc rs ws) (hb : Below w.heap.size w w') : PrV w' RA rc WA wc rs ws :=
  ⟨h.rows.below hb, h.wts.below hb⟩
theorem PrOk.len {n : Nat} {rs : List (List Nat)} {ws : List Int} (h : PrOk n rs ws) {r : List Nat} (hr : r ∈ rs) : r.length = n := by have := (h.perm r hr).length_eq; simpa using this
theorem PrOk.lt {n : Nat} {rs : List (List Nat)} {ws : List Int} (h : PrOk n rs ws) {r : List Nat} (hr : r ∈ rs) {x : Nat} (hx : x ∈ r) : x < n := List.mem_range.1 ((h.perm r hr).mem_iff.1 hx)
theorem PrOk.nodup {n : Nat} {rs : List (List Nat)} {ws : List Int} (h : PrOk n rs ws) {r : List Nat} (hr : r ∈ rs) : r.Nodup := (h.perm r hr).nodup_iff.2 List.nodup_range
theorem sorted_perm {n : Nat} {r : List Nat} (h : r.Perm (List.range n)) : SetP ((zr r).mergeSort fun x y => decide (x ≤ y)) n := by
  have hp := List.mergeSort_perm (zr r) (fun x y => decide (x ≤ y))
  have hs := List.pairwise_mergeSort (le := fun x y : Int => decide (x ≤ y)) (by intro a b c h1 h2; simp at *; omega) (by intro a b; simp; omega) (zr r)
  have nd : r.Nodup := h.nodup_iff.2 List.nodup_range
  have nz : (zr r).Nodup := by
    unfold zr
    exact List.Pairwise.map _ (fun a b (h : a ≠ b) (e : (a : Int) = b) => h (by omega)) nd
  have hn : ((zr r).mergeSort fun x y => decide (x ≤ y)).Nodup := hp.nodup_iff.2 nz
  refine ⟨fun z hz => ?_, fun i x y hx hy => ?_⟩
  · have hz := hp.mem_iff.1 hz
    obtain ⟨a, ha, rfl⟩ := List.mem_map.1 hz
    have := List.mem_range.1 (h.mem_iff.1 ha)
    omega
  · obtain ⟨h1, rfl⟩ := List.getElem?_eq_some_iff.1 hx
    obtain ⟨h2, rfl⟩ := List.getElem?_eq_some_iff.1 hy
    have a := List.pairwise_iff_getElem.1 hs i (i + 1) h1 h2 (by omega)
    have b := List.pairwise_iff_getElem.1 hn i (i + 1) h1 h2 (by omega)
    simp at a
    omega
end Go.Proofs.Ytikcbconfinibaa
