/- A slice of proofs that came in, opened: it reads as proofs. -/
import Derived.Test.YtnjnngnagdhaiaaBal
import Derived.Deep.Slices
import Derived.ChangeSame
import Derived.OpenShut
namespace Go.Proofs.Ytnjnngnagdhaiaa
set_option linter.unusedVariables false
open Go.RowKit Go.ChangeShapes Go.WideShapes
theorem ints_of_trod {H : Type} {enc : TypeId × Value → H} {P : Program} {w : World} {base : Nat} {held : Bool} {s q : TypeId} {fuel : Nat} {v : Value} {y : DataW H × List MemPlace} (hs : P.underlying s = some (.slice q)) (hq : P.underlying q = some (.int .i64)) (cq : P.cellsOf q = 1)
    (h : DataW.trod enc P w base (fun _ => true) held fuel s [v] = some y) : ∃ A n c zs, v = .slice A n c ∧ Ints .i64 w A n c zs := by
  rcases open_ints hs hq cq h with ⟨hcs, _⟩ | ⟨x, l, c, zs, hcs, _, hl, hm, hz, _, hcell, hwz⟩
  · simp at hcs
    exact ⟨_, _, _, [], hcs, ints_nil _ _⟩
  · simp at hcs
    exact ⟨_, _, _, _, hcs, ints_opened hl hm (by simpa using hz) hcell hwz⟩
theorem bps_opened {H : Type} {enc : TypeId × Value → H} {P : Program} {w : World} {base : Nat} {held : Bool} {t e q : TypeId} {f0 f1 f2 : Field} {fuel : Nat} {cs : List Value} {x : DataW H × List MemPlace} (ht : P.underlying t = some (.slice e)) (he : P.underlying e = some (.struct #[f0, f1, f2]))
    (ce : P.cellsOf e = 3) (o0 : f0.offset = 0) (o1 : f1.offset = 1) (o2 : f2.offset = 2) (c0 : P.cellsOf f0.type = 1) (c1 : P.cellsOf f1.type = 1) (c2 : P.cellsOf f2.type = 1)
    (s0 : P.underlying f0.type = some (.slice q)) (s1 : P.underlying f1.type = some (.slice q)) (s2 : P.underlying f2.type = some (.slice q)) (hq : P.underlying q = some (.int .i64)) (cq : P.cellsOf q = 1)
    (h : DataW.trod enc P w base (fun _ => true) held fuel t cs = some x) : ∃ A n c ps, cs = [.slice A n c] ∧ Bps w A n c ps := by
  rcases Go.Deep.open_slice ht h with ⟨h0, _⟩ | ⟨a, len, cap, m, n, D, Pl, rfl, hb, hl, hm, hmm, rfl, hx⟩
  · exact ⟨none, 0, 0, [], h0, bps_nil w⟩
  simp only [if_true] at hmm
  rcases Nat.eq_zero_or_pos len with h0 | h0
  · subst h0
    exact ⟨some a, 0, cap, [], rfl, rfl, hl, hm, fun hn => absurd hn (by omega)⟩
  have hspot : a.spot = Option.none := by
    obtain ⟨cs', h1, h2⟩ := hx 0 (by omega)
    rw [ce] at h1
    obtain ⟨_, hlen, hcell⟩ := World.cells?_some h1
    match cs', hlen with
    | [v0, v1, v2], _ =>
      have e0 := hcell 0 (by omega)
      rw [Go.Deep.add_add] at e0
      simp at e0
      simpa [Addr.add] using World.cell?_spot e0
  obtain ⟨b, off, spot⟩ := a
  simp at hspot
  subst hspot
  have each : ∀ i, i < len → ∃ p : Bp, b < w.heap.size ∧ BpAt w b (off + i * 3) p := by
    intro i hi
    obtain ⟨cs', h1, h2⟩ := hx i (by omega)
    rw [ce] at h1
    obtain ⟨_, hlen, hcell⟩ := World.cells?_some h1
    obtain ⟨xs, k, hk, hxy, _, hxl, hf⟩ := DataW.trod_struct he h2
    match xs, hxl, cs', hlen with
    | [y0, y1, y2], _, [v0, v1, v2], _ =>
      have g0 := hf 0 f0 rfl
      have g1 := hf 1 f1 rfl
      have g2 := hf 2 f2 rfl
      simp [o0, o1, o2, c0, c1, c2] at g0 g1 g2
      have e0 := hcell 0 (by omega)
      have e1 := hcell 1 (by omega)
      have e2 := hcell 2 (by omega)
      rw [Go.Deep.add_add, Addr.add_lit] at e0 e1 e2
      simp at e0 e1 e2
      obtain ⟨A, n0, d0, z0, rfl, i0⟩ := ints_of_trod s0 hq cq g0
      obtain ⟨B, n1, d1, z1, rfl, i1⟩ := ints_of_trod s1 hq cq g1
      obtain ⟨C, n2, d2, z2, rfl, i2⟩ := ints_of_trod s2 hq cq g2
      have hbl : b < w.heap.size := World.block_lt_of_cell? w _ e0
      exact ⟨⟨z0, z1, z2⟩, hbl, A, n0, d0, B, n1, d1, C, n2, d2, e0, by rw [Nat.add_assoc]; exact e1, by rw [Nat.add_assoc]; exact e2, i0, i1, i2⟩
  have hin : Inhabited Bp := ⟨⟨[], [], []⟩⟩
  obtain ⟨f, hf⟩ := Go.Deep.choose_lt each
  refine ⟨some ⟨b, off, Option.none⟩, len, cap, (List.range len).map f, rfl, by simp, hl, hm, fun hn => ⟨b, off, rfl, (hf 0 hn).1, fun j p hp => ?_⟩⟩
  have hj : j < len := by have := (List.getElem?_eq_some_iff.1 hp).1; simpa using this
  rw [List.getElem?_map, List.getElem?_range hj] at hp
  simp at hp
  subst hp
  exact (hf j hj).2
end Go.Proofs.Ytnjnngnagdhaiaa
