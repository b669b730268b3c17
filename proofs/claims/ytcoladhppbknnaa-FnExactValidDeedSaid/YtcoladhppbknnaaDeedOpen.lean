/- A deed that came in, opened: its fields, its list and its edits. -/
import Derived.Test.YtcoladhppbknnaaEd
import Derived.Deep.Slices
import Derived.ChangeSame
import Derived.OpenShut
namespace Go.Proofs.Ytcoladhppbknnaa
set_option linter.unusedVariables false
open Go.RowKit Go.ChangeShapes Go.WideShapes
theorem ints_of_trodD {H : Type} {enc : TypeId × Value → H} {P : Program} {w : World} {base : Nat} {held : Bool} {s q : TypeId} {fuel : Nat} {v : Value} {y : DataW H × List MemPlace} (hs : P.underlying s = some (.slice q)) (hq : P.underlying q = some (.int .i64)) (cq : P.cellsOf q = 1)
    (h : DataW.trod enc P w base (fun _ => true) held fuel s [v] = some y) : ∃ A n c zs, v = .slice A n c ∧ Ints .i64 w A n c zs := by
  rcases open_ints hs hq cq h with ⟨hcs, _⟩ | ⟨x, l, c, zs, hcs, _, hl, hm, hz, _, hcell, hwz⟩
  · simp at hcs
    exact ⟨_, _, _, [], hcs, ints_nil _ _⟩
  · simp at hcs
    exact ⟨_, _, _, _, hcs, ints_opened hl hm (by simpa using hz) hcell hwz⟩
theorem int_of_trodD {H : Type} {enc : TypeId × Value → H} {P : Program} {w : World} {base : Nat} {held : Bool} {q : TypeId} {fuel : Nat} {v : Value} {y : DataW H × List MemPlace} (hq : P.underlying q = some (.int .i64))
    (h : DataW.trod enc P w base (fun _ => true) held fuel q [v] = some y) : ∃ x, v = .int .i64 x ∧ I64 x := by
  obtain ⟨n, e, _, b⟩ := DataW.trod_int hq h
  simp at e
  exact ⟨n, e, i64_wf b⟩
theorem str_of_trodD {H : Type} {enc : TypeId × Value → H} {P : Program} {w : World} {base : Nat} {held : Bool} {q : TypeId} {fuel : Nat} {v : Value} {y : DataW H × List MemPlace} (hq : P.underlying q = some .string)
    (h : DataW.trod enc P w base (fun _ => true) held fuel q [v] = some y) : ∃ s : ByteArray, v = .string s ∧ s.size ≤ 9223372036854775807 := by
  obtain ⟨s, e, _, b⟩ := DataW.trod_string hq h
  simp at e
  exact ⟨s, e, by unfold maxLen at b; omega⟩
theorem eds_opened {H : Type} {enc : TypeId × Value → H} {P : Program} {w : World} {base : Nat} {held : Bool} {t e : TypeId} {f0 f1 f2 f3 : Field} {fuel : Nat} {v : Value} {x : DataW H × List MemPlace} (ht : P.underlying t = some (.slice e)) (he : P.underlying e = some (.struct #[f0, f1, f2, f3]))
    (ce : P.cellsOf e = 4) (o0 : f0.offset = 0) (o1 : f1.offset = 1) (o2 : f2.offset = 2) (o3 : f3.offset = 3) (c0 : P.cellsOf f0.type = 1) (c1 : P.cellsOf f1.type = 1) (c2 : P.cellsOf f2.type = 1) (c3 : P.cellsOf f3.type = 1)
    (s0 : P.underlying f0.type = some (.int .i64)) (s1 : P.underlying f1.type = some (.int .i64)) (s2 : P.underlying f2.type = some .string) (s3 : P.underlying f3.type = some .string)
    (h : DataW.trod enc P w base (fun _ => true) held fuel t [v] = some x) : ∃ A n c es, v = .slice A n c ∧ Eds w A n c es := by
  rcases Go.Deep.open_slice ht h with ⟨h0, _⟩ | ⟨a, len, cap, m, n, D, Pl, hv, hb, hl, hm, hmm, rfl, hx⟩
  · simp at h0
    exact ⟨none, 0, 0, [], h0, eds_nil w⟩
  simp at hv
  subst hv
  simp only [if_true] at hmm
  rcases Nat.eq_zero_or_pos len with h0 | h0
  · subst h0
    exact ⟨some a, 0, cap, [], rfl, ⟨rfl, hl, hm, fun hn => absurd hn (by omega)⟩, by simp⟩
  have hspot : a.spot = Option.none := by
    obtain ⟨cs', h1, h2⟩ := hx 0 (by omega)
    rw [ce] at h1
    obtain ⟨_, hlen, hcell⟩ := World.cells?_some h1
    match cs', hlen with
    | [v0, v1, v2, v3], _ =>
      have e0 := hcell 0 (by omega)
      rw [Go.Deep.add_add] at e0
      simp at e0
      simpa [Addr.add] using World.cell?_spot e0
  obtain ⟨b, off, spot⟩ := a
  simp at hspot
  subst hspot
  have each : ∀ i, i < len → ∃ e : Ed, b < w.heap.size ∧ EdOk e ∧ ∀ (j : Nat) (u : Value), e.vals[j]? = some u → w.cell? ⟨b, off + i * 4 + j, none⟩ = some u := by
    intro i hi
    obtain ⟨cs', h1, h2⟩ := hx i (by omega)
    rw [ce] at h1
    obtain ⟨_, hlen, hcell⟩ := World.cells?_some h1
    obtain ⟨xs, k, hk, hxy, _, hxl, hf⟩ := DataW.trod_struct he h2
    match xs, hxl, cs', hlen with
    | [y0, y1, y2, y3], _, [v0, v1, v2, v3], _ =>
      have g0 := hf 0 f0 rfl
      have g1 := hf 1 f1 rfl
      have g2 := hf 2 f2 rfl
      have g3 := hf 3 f3 rfl
      simp [o0, o1, o2, o3, c0, c1, c2, c3] at g0 g1 g2 g3
      have e0 := hcell 0 (by omega)
      have e1 := hcell 1 (by omega)
      have e2 := hcell 2 (by omega)
      have e3 := hcell 3 (by omega)
      rw [Go.Deep.add_add, Addr.add_lit] at e0 e1 e2 e3
      simp at e0 e1 e2 e3
      obtain ⟨kd, rfl, b0⟩ := int_of_trodD s0 g0
      obtain ⟨id, rfl, b1⟩ := int_of_trodD s1 g1
      obtain ⟨so, rfl, b2⟩ := str_of_trodD s2 g2
      obtain ⟨sn, rfl, b3⟩ := str_of_trodD s3 g3
      refine ⟨⟨kd, id, so, sn⟩, World.block_lt_of_cell? w _ e0, ⟨b0, b1, b2, b3⟩, fun j u hu => ?_⟩
      match j, hu with
      | 0, hu => simp [Ed.vals] at hu; subst hu; exact e0
      | 1, hu => simp [Ed.vals] at hu; subst hu; rw [Nat.add_assoc]; exact e1
      | 2, hu => simp [Ed.vals] at hu; subst hu; rw [Nat.add_assoc]; exact e2
      | 3, hu => simp [Ed.vals] at hu; subst hu; rw [Nat.add_assoc]; exact e3
      | j + 4, hu => simp [Ed.vals] at hu
  have hin : Inhabited Ed := ⟨⟨0, 0, ByteArray.empty, ByteArray.empty⟩⟩
  obtain ⟨f, hf⟩ := Go.Deep.choose_lt each
  refine ⟨some ⟨b, off, Option.none⟩, len, cap, (List.range len).map f, rfl, ⟨by simp, hl, hm, fun hn => ⟨b, off, rfl, (hf 0 hn).1, fun j i r u hr hu => ?_⟩⟩, fun e hem => ?_⟩
  · have hj : j < len := by have := (List.getElem?_eq_some_iff.1 hr).1; simpa using this
    rw [List.getElem?_map, List.getElem?_map, List.getElem?_range hj] at hr
    simp at hr
    subst hr
    exact (hf j hj).2.2 i u hu
  · obtain ⟨i, hi, rfl⟩ := List.mem_map.1 hem
    exact (hf i (List.mem_range.1 hi)).2.1
theorem deed_opened {H : Type} {enc : TypeId × Value → H} {P : Program} {w : World} {base : Nat} {r : Reach} {b0 : Nat} {held : Bool} {t q st tl te e : TypeId} {f0 f1 f2 f3 f4 f5 f6 f7 f8 k0 k1 k2 k3 : Field} {v : Value} {d : DataW H} {p : List MemPlace} (hs : P.underlying t = some (.struct #[f0, f1, f2, f3, f4, f5, f6, f7, f8]))
    (ce : P.cellsOf t = 9) (o : f0.offset = 0 ∧ f1.offset = 1 ∧ f2.offset = 2 ∧ f3.offset = 3 ∧ f4.offset = 4 ∧ f5.offset = 5 ∧ f6.offset = 6 ∧ f7.offset = 7 ∧ f8.offset = 8)
    (ty : f0.type = q ∧ f1.type = q ∧ f2.type = tl ∧ f3.type = st ∧ f4.type = q ∧ f5.type = te ∧ f6.type = q ∧ f7.type = q ∧ f8.type = q)
    (uq : P.underlying q = some (.int .i64)) (us : P.underlying st = some .string) (ul : P.underlying tl = some (.slice q)) (ue : P.underlying te = some (.slice e)) (ud : P.underlying e = some (.struct #[k0, k1, k2, k3]))
    (cq : P.cellsOf q = 1) (cs : P.cellsOf st = 1) (cl : P.cellsOf tl = 1) (cte : P.cellsOf te = 1) (ced : P.cellsOf e = 4)
    (ko : k0.offset = 0 ∧ k1.offset = 1 ∧ k2.offset = 2 ∧ k3.offset = 3) (kt : k0.type = q ∧ k1.type = q ∧ k2.type = st ∧ k3.type = st)
    (hv : Value.okWide P w r b0 t v) (h : DataW.Trod enc P w base (fun _ => true) held t v d p) :
    ∃ (kd mb : Int) (tA : Option Addr) (tn tc : Nat) (ts : List Int) (ti : ByteArray) (vt : Int) (pA : Option Addr) (pn pc : Nat) (es : List Ed) (fr un cl : Int),
      v = .agg #[.int .i64 kd, .int .i64 mb, .slice tA tn tc, .string ti, .int .i64 vt, .slice pA pn pc, .int .i64 fr, .int .i64 un, .int .i64 cl] ∧
      Ints .i64 w tA tn tc ts ∧ Eds w pA pn pc es ∧ ti.size ≤ 9223372036854775807 ∧ I64 un := by
  obtain ⟨o0, o1, o2, o3, o4, o5, o6, o7, o8⟩ := o
  obtain ⟨t0, t1, t2, t3, t4, t5, t6, t7, t8⟩ := ty
  obtain ⟨ko0, ko1, ko2, ko3⟩ := ko
  obtain ⟨kt0, kt1, kt2, kt3⟩ := kt
  obtain ⟨xs, rfl, hsz⟩ := okWide_struct hs hv
  obtain ⟨l⟩ := xs
  match l, hsz.trans ce with
  | [v0, v1, v2, v3, v4, v5, v6, v7, v8], _ =>
    obtain ⟨fuel, hf⟩ := h
    obtain ⟨ys, n, _, hx, _, hlen, hg⟩ := DataW.trod_struct hs hf
    match ys, hlen with
    | [y0, y1, y2, y3, y4, y5, y6, y7, y8], _ =>
      have g0 := hg 0 f0 rfl
      have g1 := hg 1 f1 rfl
      have g2 := hg 2 f2 rfl
      have g3 := hg 3 f3 rfl
      have g4 := hg 4 f4 rfl
      have g5 := hg 5 f5 rfl
      have g6 := hg 6 f6 rfl
      have g7 := hg 7 f7 rfl
      have g8 := hg 8 f8 rfl
      simp [Value.cells, o0, t0, cq] at g0
      simp [Value.cells, o1, t1, cq] at g1
      simp [Value.cells, o2, t2, cl] at g2
      simp [Value.cells, o3, t3, cs] at g3
      simp [Value.cells, o4, t4, cq] at g4
      simp [Value.cells, o5, t5, cte] at g5
      simp [Value.cells, o6, t6, cq] at g6
      simp [Value.cells, o7, t7, cq] at g7
      simp [Value.cells, o8, t8, cq] at g8
      obtain ⟨kd, rfl, _⟩ := int_of_trodD uq g0
      obtain ⟨mb, rfl, _⟩ := int_of_trodD uq g1
      obtain ⟨tA, tn, tc, ts, rfl, hT⟩ := ints_of_trodD ul uq cq g2
      obtain ⟨ti, rfl, hti⟩ := str_of_trodD us g3
      obtain ⟨vt, rfl, _⟩ := int_of_trodD uq g4
      obtain ⟨pA, pn, pc, es, rfl, hP⟩ := eds_opened ue ud ced ko0 ko1 ko2 ko3 (by rw [kt0]; exact cq) (by rw [kt1]; exact cq) (by rw [kt2]; exact cs) (by rw [kt3]; exact cs) (by rw [kt0]; exact uq) (by rw [kt1]; exact uq) (by rw [kt2]; exact us) (by rw [kt3]; exact us) g5
      obtain ⟨fr, rfl, _⟩ := int_of_trodD uq g6
      obtain ⟨un, rfl, hun⟩ := int_of_trodD uq g7
      obtain ⟨cl, rfl, _⟩ := int_of_trodD uq g8
      exact ⟨kd, mb, tA, tn, tc, ts, ti, vt, pA, pn, pc, es, fr, un, cl, rfl, hT, hP, hti, hun⟩
end Go.Proofs.Ytcoladhppbknnaa
