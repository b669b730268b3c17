/- Acts of the call's own. -/
import Derived.Test.YtcoladhppbknnaaAc6
namespace Go.Proofs.Ytcoladhppbknnaa
set_option linter.unusedVariables false
set_option linter.unusedSimpArgs false
set_option maxRecDepth 100000
open Go.RowKit Go.Deep
/-- An act that the call made. -/
structure AOk (w : World) (lo : Nat) (a : Ac) : Prop where
  f : -2000 ≤ a.f ∧ a.f ≤ 2000
  u : -2000 ≤ a.u ∧ a.u ≤ 2000
  p : EdsO w lo a.A a.n a.c a.p
  p98 : P98 a.p
def AcsO (w : World) (lo : Nat) (A : Option Addr) (n c : Nat) (es : List Ac) : Prop := OwnR 72 3 w lo A n c (es.map Ac.vals) ∧ ∀ a ∈ es, AOk w lo a
section
variable {w w' : World} {lo : Nat} {A : Option Addr} {n c : Nat} {es : List Ac}
theorem AOk.low {a : Ac} (h : AOk w lo a) {g : Nat} (hg : w.grownBy w' (some g)) (hl : g < lo) : AOk w' lo a := ⟨h.f, h.u, h.p.kept hg (ne_lt' (fun x hx => (OwnR.block h.p x hx).1) hl), h.p98⟩
theorem AOk.below {a : Ac} (h : AOk w lo a) (hb : Below w.heap.size w w') : AOk w' lo a := ⟨h.f, h.u, OwnR.below h.p hb, h.p98⟩
theorem AcsO.len (h : AcsO w lo A n c es) : es.length = n := by have := h.1.2.1; simpa using this
theorem AcsO.low (h : AcsO w lo A n c es) {g : Nat} (hg : w.grownBy w' (some g)) (hl : g < lo) : AcsO w' lo A n c es := ⟨h.1.kept hg (ne_lt' (fun x hx => (h.1.block x hx).1) hl), fun a ha => (h.2 a ha).low hg hl⟩
theorem AcsO.below (h : AcsO w lo A n c es) (hb : Below w.heap.size w w') : AcsO w' lo A n c es := ⟨h.1.below hb, fun a ha => (h.2 a ha).below hb⟩
theorem AcsO.acs (h : AcsO w lo A n c es) : Acs w A n c es := ⟨h.1.recs, fun a ha => ⟨(h.2 a ha).f, (h.2 a ha).u, (h.2 a ha).p.eds (fun e he => ((h.2 a ha).p98 e he).1)⟩⟩
theorem AcsO.grow (h : AcsO w lo A n c es) (hg : w.grownBy w' (Value.slice A n c).ownBlock) {a : Ac} (ha : AOk w lo a) : AOk w' lo a := ⟨ha.f, ha.u, OwnR.kept ha.p hg (own_ne ha.p.1 h.1.1 (by decide)), ha.p98⟩
theorem AcsO.at (h : AcsO w lo A n c es) {j : Nat} (hj : j < n) :
    ∃ g e, A = some ⟨g, 0, none⟩ ∧ lo ≤ g ∧ g < w.heap.size ∧ Hid (es[j]? = some e) ∧ Hid (AOk w lo e) ∧ w.cell? ⟨g, j * 3, none⟩ = some (.int .i64 e.f) ∧ w.cell? ⟨g, j * 3 + 1, none⟩ = some (.int .i64 e.u) ∧ w.cell? ⟨g, j * 3 + 2, none⟩ = some (.slice e.A e.n e.c) ∧ ∀ i, w.frozen? ⟨g, i, none⟩ = false := by
  obtain ⟨g, rfl, h1, h2⟩ := h.1.form (by omega)
  have hl := h.len
  obtain ⟨e, he⟩ : ∃ e, es[j]? = some e := ⟨_, List.getElem?_eq_getElem (by omega)⟩
  have hr : (es.map Ac.vals)[j]? = some e.vals := by rw [List.getElem?_map, he]; rfl
  exact ⟨g, e, rfl, h1, h2, he, h.2 e (List.mem_of_getElem? he), h.1.cell hr (i := 0) rfl, h.1.cell hr (i := 1) rfl, h.1.cell hr (i := 2) rfl, fun i => h.1.free i⟩
theorem AcsO.put {g j i : Nat} {e e' : Ac} (h : AcsO w lo (some ⟨g, 0, none⟩) n c es) (he : es[j]? = some e) (hi : i < 3) (u : Value) (hu : e.vals.set i u = e'.vals) (ok : AOk w lo e') :
    AcsO (w.setCell ⟨g, j * 3 + i, none⟩ u) lo (some ⟨g, 0, none⟩) n c (es.set j e') ∧ w.grownBy (w.setCell ⟨g, j * 3 + i, none⟩ u) (some g) := by
  have hr : (es.map Ac.vals)[j]? = some e.vals := by rw [List.getElem?_map, he]; rfl
  obtain ⟨p1, p2⟩ := h.1.put u hr hi
  refine ⟨⟨by rw [hu, ← List.map_set] at p1; exact p1, fun a ha => ?_⟩, p2⟩
  rcases List.mem_or_eq_of_mem_set ha with ha | rfl
  · exact h.grow p2 (h.2 a ha)
  · exact h.grow p2 ok
end
theorem info_ac : (Try.prog.info? 72).map (fun i => (i.zero, i.size, i.bytes)) = some (some (.agg #[.int .i64 0, .int .i64 0, .slice none 0 0]), 3, 40) := by kernel_rfl
theorem AcsO.snoc {w : World} {lo n c : Nat} {A : Option Addr} {es : List Ac} {a : Ac} (h : OwnR 72 3 w lo A (n + 1) c (es.map Ac.vals ++ [a.vals])) : OwnR 72 3 w lo A (n + 1) c ((es ++ [a]).map Ac.vals) := by
  rw [List.map_append]; exact h
theorem acsO_lit (w : World) : AcsO (w.alloc (.cells #[] 72)) w.heap.size (some ⟨w.heap.size, 0, none⟩) 0 0 [] := ⟨ownR_lits (rs := []) w (by simp) (by unfold maxLen; simp), by simp⟩
theorem app_ac1 {ops : Array Oper} {rest : List Oper} {o : Oper} {a : Go.Act} {Q : Exit → Go.Act → World → Prop} (w : World) (hgd : o.guard = none) (s x : Operand)
    (ho : o.op = .call { callee := .builtin .append, args := #[s, x], argTypes := #[38, 38] }) (lo : Nat)
    (A : Option Addr) (n c : Nat) (es : List Ac) (hs : a.eval s = .slice A n c) (hown : AcsO w lo A n c es) (e : Ac) (he : AOk w lo e)
    (hx : a.eval x = .slice (some ⟨w.heap.size, 0, none⟩) 1 1) (hn : n ≤ 1048576) (hbase : lo ≤ w.heap.size)
    (h : ∀ A' c' w1, AcsO w1 lo A' (n + 1) c' (es ++ [e]) → w.grownBy w1 (Value.slice A n c).ownBlock → wpList Try.prog ops Q rest (a.put o.dst (.slice A' (n + 1) c')) w1) :
    wpList Try.prog ops Q (o :: rest) a (w.alloc (.cells #[.int .i64 e.f, .int .i64 e.u, .slice e.A e.n e.c] 72)) := by
  obtain ⟨i0, hi, hz0, hz1, hz2⟩ := info_parts info_ac
  refine app_rec w hgd s x _ _ ho lo i0 _ 3 40 Try.underlying38 hi hz0 hz1 hz2 rfl (by omega) A n c _ hs hown.1 e.vals rfl (by intro u hu; simp [Ac.vals] at hu; rcases hu with rfl | rfl | rfl <;> rfl) hx (by unfold maxLen; omega) (by omega) hbase ?_
  intro A' c' w1 p1 p2 _
  refine h A' c' w1 ⟨AcsO.snoc p1, fun b hb => ?_⟩ p2
  rcases List.mem_append.1 hb with hb | hb
  · exact hown.grow p2 (hown.2 b hb)
  · rw [List.mem_singleton] at hb; subst hb; exact hown.grow p2 he
/-- What the drawing of acts keeps. -/
structure DA (w0 : World) (g : Nat) (An : Option Addr) (nn cn : Nat) (bs : List Int) (BA : Option Addr) (bn bc : Nat) (s : List Ar) (TA : Option Addr) (tn tc : Nat) (t : List Ar) (A : Option Addr) (n c : Nat) (es : List Ac) (w : World) (k : Nat) : Prop where
  src : Src w g An nn cn bs k
  gr : w0.grownBy w (some g)
  b : ArsO w w0.heap.size BA bn bc s
  t : ArsO w w0.heap.size TA tn tc t
  a : AcsO w w0.heap.size A n c es
section
variable {w0 : World} {g : Nat} {An : Option Addr} {nn cn : Nat} {bs : List Int} {BA : Option Addr} {bn bc : Nat} {s : List Ar} {TA : Option Addr} {tn tc : Nat} {t : List Ar} {A : Option Addr} {n c : Nat} {es : List Ac} {w w' : World} {k k' : Nat}
theorem DA.low (h : DA w0 g An nn cn bs BA bn bc s TA tn tc t A n c es w k) (hs : Src w' g An nn cn bs k') (hg : w.grownBy w' (some g)) (gl : g < w0.heap.size) : DA w0 g An nn cn bs BA bn bc s TA tn tc t A n c es w' k' :=
  ⟨hs, grown_trans h.gr hg, h.b.kept hg (ne_lt' (fun x hx => (OwnR.block h.b x hx).1) gl), h.t.kept hg (ne_lt' (fun x hx => (OwnR.block h.t x hx).1) gl), h.a.low hg gl⟩
theorem DA.below (h : DA w0 g An nn cn bs BA bn bc s TA tn tc t A n c es w k) (hb : Below w.heap.size w w') : DA w0 g An nn cn bs BA bn bc s TA tn tc t A n c es w' k :=
  ⟨h.src.kept hb, gr_bel h.gr hb, OwnR.below h.b hb, OwnR.below h.t hb, h.a.below hb⟩
theorem DA.app (h : DA w0 g An nn cn bs BA bn bc s TA tn tc t A n c es w k) (gl : g < w0.heap.size) {A' : Option Addr} {n' c' : Nat} {es' : List Ac} (p1 : AcsO w' w0.heap.size A' n' c' es') (p2 : w.grownBy w' (Value.slice A n c).ownBlock) : DA w0 g An nn cn bs BA bn bc s TA tn tc t A' n' c' es' w' k :=
  ⟨h.src.grown p2 (fun x hx => by have := (h.a.1.block x hx).1; omega), gr_app h.gr p2 (fun x hx => (h.a.1.block x hx).1), OwnR.kept h.b p2 (own_ne h.b.1 h.a.1.1 (by decide)), OwnR.kept h.t p2 (own_ne h.t.1 h.a.1.1 (by decide)), p1⟩
theorem DA.turn (h : DA w0 g An nn cn bs BA bn bc s TA tn tc t A n c es w k) {TA' : Option Addr} {tn' tc' : Nat} {t' : List Ar} (ht : ArsO w w0.heap.size TA' tn' tc' t') : DA w0 g An nn cn bs BA bn bc s TA' tn' tc' t' A n c es w k := ⟨h.src, h.gr, h.b, ht, h.a⟩
end
end Go.Proofs.Ytcoladhppbknnaa
