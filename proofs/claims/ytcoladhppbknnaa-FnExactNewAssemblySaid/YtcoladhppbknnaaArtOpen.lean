/- A statute that came in, opened: its articles. -/
import Derived.Test.YtcoladhppbknnaaEd
import Derived.Deep.Slices
import Derived.ChangeSame
import Derived.OpenShut
namespace Go.Proofs.Ytcoladhppbknnaa
set_option linter.unusedVariables false
open Go.RowKit Go.ChangeShapes Go.WideShapes
theorem int_of_trodA {H : Type} {enc : TypeId × Value → H} {P : Program} {w : World} {base : Nat} {held : Bool} {q : TypeId} {fuel : Nat} {v : Value} {y : DataW H × List MemPlace} (hq : P.underlying q = some (.int .i64))
    (h : DataW.trod enc P w base (fun _ => true) held fuel q [v] = some y) : ∃ x, v = .int .i64 x ∧ I64 x := by
  obtain ⟨n, e, _, b⟩ := DataW.trod_int hq h
  simp at e
  exact ⟨n, e, i64_wf b⟩
theorem str_of_trodA {H : Type} {enc : TypeId × Value → H} {P : Program} {w : World} {base : Nat} {held : Bool} {q : TypeId} {fuel : Nat} {v : Value} {y : DataW H × List MemPlace} (hq : P.underlying q = some .string)
    (h : DataW.trod enc P w base (fun _ => true) held fuel q [v] = some y) : ∃ s : ByteArray, v = .string s ∧ s.size ≤ 9223372036854775807 := by
  obtain ⟨s, e, _, b⟩ := DataW.trod_string hq h
  simp at e
  exact ⟨s, e, by unfold maxLen at b; omega⟩
theorem ars_opened {H : Type} {enc : TypeId × Value → H} {P : Program} {w : World} {base : Nat} {held : Bool} {t e : TypeId} {f0 f1 : Field} {fuel : Nat} {v : Value} {x : DataW H × List MemPlace} (ht : P.underlying t = some (.slice e)) (he : P.underlying e = some (.struct #[f0, f1]))
    (ce : P.cellsOf e = 2) (o0 : f0.offset = 0) (o1 : f1.offset = 1) (c0 : P.cellsOf f0.type = 1) (c1 : P.cellsOf f1.type = 1)
    (s0 : P.underlying f0.type = some (.int .i64)) (s1 : P.underlying f1.type = some .string)
    (h : DataW.trod enc P w base (fun _ => true) held fuel t [v] = some x) : ∃ A n c es, v = .slice A n c ∧ Ars w A n c es := by
  rcases Go.Deep.open_slice ht h with ⟨h0, _⟩ | ⟨a, len, cap, m, n, D, Pl, hv, hb, hl, hm, hmm, rfl, hx⟩
  · simp at h0
    exact ⟨none, 0, 0, [], h0, ars_nil w⟩
  simp at hv
  subst hv
  simp only [if_true] at hmm
  rcases Nat.eq_zero_or_pos len with h0 | h0
  · subst h0
    exact ⟨some a, 0, cap, [], rfl, ⟨rfl, hl, hm, fun hn => absurd hn (by omega)⟩, by simp⟩
  have hspot : a.spot = Option.none := by
    obtain ⟨cs', h1, h2⟩ := hx 0 (by omega)
    rw [ce] at h1
    obtain ⟨_, hlen, hcell⟩ := World.cells?_some h1
    match cs', hlen with
    | [v0, v1], _ =>
      have e0 := hcell 0 (by omega)
      rw [Go.Deep.add_add] at e0
      simp at e0
      simpa [Addr.add] using World.cell?_spot e0
  obtain ⟨b, off, spot⟩ := a
  simp at hspot
  subst hspot
  have each : ∀ i, i < len → ∃ e : Ar, b < w.heap.size ∧ ArOk e ∧ ∀ (j : Nat) (u : Value), e.vals[j]? = some u → w.cell? ⟨b, off + i * 2 + j, none⟩ = some u := by
    intro i hi
    obtain ⟨cs', h1, h2⟩ := hx i (by omega)
    rw [ce] at h1
    obtain ⟨_, hlen, hcell⟩ := World.cells?_some h1
    obtain ⟨xs, k, hk, hxy, _, hxl, hf⟩ := DataW.trod_struct he h2
    match xs, hxl, cs', hlen with
    | [y0, y1], _, [v0, v1], _ =>
      have g0 := hf 0 f0 rfl
      have g1 := hf 1 f1 rfl
      simp [o0, o1, c0, c1] at g0 g1
      have e0 := hcell 0 (by omega)
      have e1 := hcell 1 (by omega)
      rw [Go.Deep.add_add, Addr.add_lit] at e0 e1
      simp at e0 e1
      obtain ⟨id, rfl, b0⟩ := int_of_trodA s0 g0
      obtain ⟨tx, rfl, b1⟩ := str_of_trodA s1 g1
      refine ⟨⟨id, tx⟩, World.block_lt_of_cell? w _ e0, ⟨b0, b1⟩, fun j u hu => ?_⟩
      match j, hu with
      | 0, hu => simp [Ar.vals] at hu; subst hu; exact e0
      | 1, hu => simp [Ar.vals] at hu; subst hu; rw [Nat.add_assoc]; exact e1
      | j + 2, hu => simp [Ar.vals] at hu
  have hin : Inhabited Ar := ⟨⟨0, ByteArray.empty⟩⟩
  obtain ⟨f, hf⟩ := Go.Deep.choose_lt each
  refine ⟨some ⟨b, off, Option.none⟩, len, cap, (List.range len).map f, rfl, ⟨by simp, hl, hm, fun hn => ⟨b, off, rfl, (hf 0 hn).1, fun j i r u hr hu => ?_⟩⟩, fun e hem => ?_⟩
  · have hj : j < len := by have := (List.getElem?_eq_some_iff.1 hr).1; simpa using this
    rw [List.getElem?_map, List.getElem?_map, List.getElem?_range hj] at hr
    simp at hr
    subst hr
    exact (hf j hj).2.2 i u hu
  · obtain ⟨i, hi, rfl⟩ := List.mem_map.1 hem
    exact (hf i (List.mem_range.1 hi)).2.1
end Go.Proofs.Ytcoladhppbknnaa
