/- The reference's sets as lists in ascending order: the walk. -/
import Derived.Test.YteejfjgofpolkaaLists
import Derived.Test.YteejfjgofpolkaaLst
namespace Go.Proofs.Yteejfjgofpolkaa
set_option linter.unusedVariables false
set_option linter.unusedSimpArgs false
set_option maxRecDepth 100000
open Go.RowKit Go.Deep
def bitsL (L : List Nat) : List (List Int) := L.map fun m => bitsTo m 10
theorem bitsL_len (L : List Nat) : (bitsL L).length = L.length := by simp [bitsL]
theorem bitsL_snoc {L : List Nat} {k m : Nat} (h : L[k]? = some m) : bitsL (L.take (k + 1)) = bitsL (L.take k) ++ [bitsTo m 10] := by unfold bitsL; rw [take_snoc' h, List.map_append]; rfl
theorem fst_one {w : World} {base : Nat} {ps : List (Value × List Int)} (h : MP w base ps) : ∀ u ∈ ps.map Prod.fst, u.oneCell' = true := fun u hu => by
  obtain ⟨p, hp, rfl⟩ := List.mem_map.1 hu
  obtain ⟨A, c, e, _⟩ := h.1 p hp
  rw [e]; rfl
theorem OwnP.cellAt {w : World} {base g n c j : Nat} {ps : List (Value × List Int)} {p : Value × List Int} (h : OwnP w base (some ⟨g, 0, none⟩) n c ps) (hp : ps[j]? = some p) : w.cell? ⟨g, j, none⟩ = some p.1 := by
  have := h.outer.cells (g := g) rfl j p.1 (by rw [List.getElem?_map, hp]; rfl)
  rwa [Addr.add_lit, Nat.zero_add] at this
theorem outer_lit2 (w : World) {base : Nat} (h : base ≤ w.heap.size) : (w.alloc (.cells #[] 28)).ownsRow base 28 1 (.slice (some ⟨w.heap.size, 0, none⟩) 0 0) 0 [] := by
  simpa using World.ownsRow_lit (base := base) (e := 28) (size := 1) w #[] 0 h (by unfold maxLen; omega) rfl
theorem own_below {w w' : World} {base n : Nat} {v : Value} {us : List Value} (h : w.ownsRow base 28 1 v n us) (hb : Below w.heap.size w w') : w'.ownsRow base 28 1 v n us :=
  h.kept (row := none) ⟨hb.os, hb.tape, hb.output, hb.size, fun k hk _ => hb.block k hk⟩ (by cases v.ownBlock <;> simp)
theorem own_mono {w : World} {base b2 n : Nat} {v : Value} {us : List Value} (h : w.ownsRow base 28 1 v n us) (hb : b2 ≤ base) : w.ownsRow b2 28 1 v n us :=
  ⟨h.1, h.2.imp id fun ⟨g, cap, cur, h1, h2, h3⟩ => ⟨g, cap, cur, h1, Nat.le_trans hb h2, h3⟩⟩
theorem one_cells (w : World) (v : Value) : ∀ j u, [v][j]? = some u → (w.alloc (.cells #[v] 28)).cell? (Addr.add ⟨w.heap.size, 0, none⟩ j) = some u := fun j u h => by
  cases j with
  | zero => rw [Addr.add_lit]; simp at h; subst h; exact (Cs.new w [v] 28).cell 0 rfl
  | succ j => simp at h
theorem OwnP.tail {w : World} {base g n c j : Nat} {ps : List (Value × List Int)} (h : OwnP w base (some ⟨g, 0, none⟩) n c ps) : ∀ i u, ((ps.map Prod.fst).drop j)[i]? = some u → w.cell? (Addr.add ⟨g, j, none⟩ i) = some u := fun i u hu => by
  rw [List.getElem?_drop] at hu
  have := h.outer.cells (g := g) rfl (j + i) u hu
  rw [Addr.add_lit, Nat.zero_add] at this
  rwa [Addr.add_lit]
theorem OwnP.front {w : World} {base g n c j : Nat} {ps : List (Value × List Int)} (h : OwnP w base (some ⟨g, 0, none⟩) n c ps) : ∀ i u, ((ps.map Prod.fst).take j)[i]? = some u → w.cell? (Addr.add ⟨g, 0, none⟩ i) = some u := fun i u hu => by
  have hi := (List.getElem?_eq_some_iff.1 hu).1
  rw [List.getElem?_take_of_lt (by simp at hi; omega)] at hu
  exact h.outer.cells (g := g) rfl i u hu
theorem MP.ones {w : World} {base : Nat} {ps : List (Value × List Int)} (h : MP w base ps) (f : List Value → List Value) (hf : ∀ l, ∀ u ∈ f l, u ∈ l) : ∀ u ∈ f (ps.map Prod.fst), u.oneCell' = true := fun u hu => fst_one h u (hf _ u hu)
theorem MP.cons {w : World} {base : Nat} {ps : List (Value × List Int)} {A : Option Addr} {c : Nat} {z : List Int} (h : MP w base ps) (o : OwnI w base A z.length c z) (hn : ∀ p ∈ ps, Apart p.1 (.slice A z.length c)) : MP w base ((.slice A z.length c, z) :: ps) :=
  ⟨fun p hp => by
    rcases List.mem_cons.1 hp with rfl | hp
    · exact ⟨A, c, rfl, o⟩
    · exact h.1 p hp, List.pairwise_cons.2 ⟨fun p hp => (hn p hp).symm, h.2⟩⟩
theorem OwnP.put {w w' : World} {base c m j : Nat} {A' : Option Addr} {c' : Nat} {v : Value} {z : List Int} {ps : List (Value × List Int)} (P : MP w base ((v, z) :: ps)) (hb : Below w.heap.size w w')
    (o : w'.ownsRow base 28 1 (.slice A' m c') m ((ps.map Prod.fst).take j ++ [v] ++ (ps.map Prod.fst).drop j)) : OwnP w' base A' m c' (ps.take j ++ (v, z) :: ps.drop j) := by
  refine ⟨?_, (P.perm ?_).below hb⟩
  · rw [show (ps.take j ++ (v, z) :: ps.drop j).map Prod.fst = (ps.map Prod.fst).take j ++ [v] ++ (ps.map Prod.fst).drop j by simp [List.map_take, List.map_drop]]
    exact o
  · have := (List.perm_middle (a := (v, z)) (l₁ := ps.take j) (l₂ := ps.drop j)).symm
    rwa [List.take_append_drop] at this
theorem own_form {w : World} {base n c : Nat} {A : Option Addr} {us : List Value} (h : w.ownsRow base 28 1 (.slice A n c) n us) (hn : 0 < n) : ∃ g, A = some ⟨g, 0, none⟩ := by
  rcases h.2 with ⟨h1, h2⟩ | ⟨g, cap, cur, hv, _⟩
  · omega
  · simp only [Value.slice.injEq] at hv
    exact ⟨g, hv.1⟩
theorem perm_put {l b : List (List Int)} {z : List Int} {j : Nat} (h : l.Perm b) : (l.take j ++ z :: l.drop j).Perm (b ++ [z]) := by
  refine List.perm_middle.trans ?_
  rw [List.take_append_drop]
  exact (h.cons z).trans (List.perm_append_singleton z b).symm
theorem snd_put {ps : List (Value × List Int)} {v : Value} {z : List Int} {j : Nat} : (ps.take j ++ (v, z) :: ps.drop j).map Prod.snd = (ps.map Prod.snd).take j ++ z :: (ps.map Prod.snd).drop j := by simp [List.map_take, List.map_drop]
end Go.Proofs.Yteejfjgofpolkaa
