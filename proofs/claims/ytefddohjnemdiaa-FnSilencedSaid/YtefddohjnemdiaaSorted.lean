/- slices.Sort and slices.Reverse over a row of the call's own. -/
import Derived.Test.YtefddohjnemdiaaMark
import Derived.Test.YtefddohjnemdiaaShelf
import Derived.Sort.OwnSortedInts
namespace Go.Proofs.Ytefddohjnemdiaa
set_option linter.unusedVariables false
open Go.RowKit Go.Sort
theorem OwnI.holds {w : World} {base g n c : Nat} {zs : List Int} (h : OwnI w base (some ⟨g, 0, none⟩) n c zs) : Holds (Value.int .i64) w g 0 zs.toArray := by
  rcases h.1.2 with ⟨hv, h0⟩ | ⟨g', cap, cur, hv, hb, hg, hnc, hcm, hcs, ht⟩
  · cases hv
  · simp only [Value.slice.injEq, Option.some.injEq, Addr.mk.injEq, and_true, true_and] at hv
    obtain ⟨rfl, rfl⟩ := hv
    exact holds_of_blockI hg (by rw [h.len]; simpa [vals] using ht)
theorem OwnI.put {w : World} {base g n c : Nat} {zs : List Int} (h : OwnI w base (some ⟨g, 0, none⟩) n c zs) (ts : List Int) (hl : ts.length = zs.length) (hz : ∀ z ∈ ts, z ∈ zs) (k : Nat) (os : Array Obj) :
    OwnI (grow (putRow (Value.int .i64) (Sort.ahead w k) g 0 ts.toArray) os) base (some ⟨g, 0, none⟩) n c ts := by
  have hn := h.len
  rcases h.1.2 with ⟨hv, h0⟩ | ⟨g', cap, cur, hv, hb, hg, hnc, hcm, hcs, ht⟩
  · cases hv
  · simp only [Value.slice.injEq, Option.some.injEq, Addr.mk.injEq, and_true, true_and] at hv
    obtain ⟨rfl, rfl⟩ := hv
    have := ownsRow_sortedI (n := k) (os := os) (cap := c) hl hb hg (by omega) hcm (by simpa using hcs)
    rw [hn] at this
    exact ⟨this, fun z hz' => h.2 z (hz z hz')⟩
theorem grow_none (w : World) : grow w #[] = w := by unfold grow; simp
theorem sort64_any (base : Nat) (A : Option Addr) (n c : Nat) (zs : List Int) (w : World) (h : OwnI w base A n c zs) (hn : n ≤ 1048576) :
    Calls Try.prog 36 #[.slice A n c] w fun e w' => e = .returned (.tuple #[]) ∧ OwnI w' base A n c (zs.mergeSort fun x y => decide (x ≤ y)) ∧ w.grownBy w' (Value.slice A n c).ownBlock := by
  have hl := h.len
  rcases A with _ | a
  · have h0 : n = 0 ∧ c = 0 := by
      rcases h.1.2 with ⟨hv, h0⟩ | ⟨g', cap, cur, hv, _⟩
      · simp at hv; exact hv
      · cases hv
    obtain ⟨rfl, rfl⟩ := h0
    have hz : zs = [] := List.eq_nil_of_length_eq_zero hl
    subst hz
    refine (Try.slices_Sort_int_none none 0 w).mono ?_
    rintro e w' ⟨rfl, rfl⟩
    exact ⟨rfl, by simpa using h, World.grownBy.refl _ _⟩
  · have ha : a = ⟨a.block, 0, none⟩ ∧ a.block < w.heap.size := by
      rcases h.1.2 with ⟨hv, h0⟩ | ⟨g', cap, cur, hv, _, hg, _⟩
      · cases hv
      · simp only [Value.slice.injEq, Option.some.injEq, true_and] at hv
        obtain ⟨rfl, rfl⟩ := hv
        exact ⟨rfl, (Array.getElem?_eq_some_iff.1 hg).1⟩
    obtain ⟨ea, hlt⟩ := ha
    obtain ⟨g, hg⟩ : ∃ g, a.block = g := ⟨_, rfl⟩
    rw [hg] at ea hlt
    subst ea
    subst hl
    refine (Try.slices_Sort_int g 0 c zs w h.holds hlt (by omega)).mono ?_
    rintro e w' ⟨rfl, k, os, rfl⟩
    exact ⟨rfl, h.put _ (List.mergeSort_perm _ _).length_eq (fun z hz => (List.mergeSort_perm _ _).mem_iff.1 hz) k os, grownBy_sortedI _⟩
end Go.Proofs.Ytefddohjnemdiaa
