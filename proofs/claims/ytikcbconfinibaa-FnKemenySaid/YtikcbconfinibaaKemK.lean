/- The least over all rankings: what the search knows. No walk. -/
import Derived.Test.YtikcbconfinibaaKemB
import Derived.Test.YtikcbconfinibaaStepApp
namespace Go.Proofs.Ytikcbconfinibaa
set_option linter.unusedVariables false
set_option linter.unusedSimpArgs false
set_option maxRecDepth 100000
open Go.RowKit Go.Deep
theorem nodup_perm : ∀ (n : Nat) (l : List Nat), l.Nodup → (∀ x ∈ l, x < n) → l.length ≤ n ∧ (l.length = n → l.Perm (List.range n))
  | 0, l, _, h => by
    have : l = [] := List.eq_nil_iff_forall_not_mem.2 (fun x hx => absurd (h x hx) (by omega))
    subst this
    exact ⟨Nat.le_refl _, fun _ => .refl _⟩
  | n + 1, l, nd, h => by
    by_cases hn : n ∈ l
    · have hp := List.perm_cons_erase hn
      have nd2 := nd.erase n
      have h2 : ∀ x ∈ l.erase n, x < n := fun x hx => by
        have h3 := (nd.mem_erase_iff).1 hx
        have := h x h3.2
        have := h3.1
        omega
      obtain ⟨i1, i2⟩ := nodup_perm n (l.erase n) nd2 h2
      have hl := hp.length_eq
      rw [List.length_cons] at hl
      refine ⟨by omega, fun e => ?_⟩
      rw [List.range_succ]
      exact hp.trans (((i2 (by omega)).cons n).trans (List.perm_append_comm (l₁ := [n])))
    · have h2 : ∀ x ∈ l, x < n := fun x hx => by
        have := h x hx
        have : x ≠ n := fun e => hn (e ▸ hx)
        omega
      obtain ⟨i1, _⟩ := nodup_perm n l nd h2
      exact ⟨by omega, fun e => absurd e (by omega)⟩
/-- What a search from a beginning has done to the best ranking so far. -/
structure Res (P : Nat → Nat → Int) (n : Nat) (bg : List Nat) (st st' : Option (List Nat)) : Prop where
  perm : (∀ q, st = some q → q.Perm (List.range n)) → ∀ q, st' = some q → q.Perm (List.range n)
  le : ∀ q0, st = some q0 → ∃ q, st' = some q ∧ dis P q ≤ dis P q0
  all : ∀ r, r.Perm (List.range n) → bg <+: r → ∃ q, st' = some q ∧ dis P q ≤ dis P r
structure ResL (P : Nat → Nat → Int) (n : Nat) (bg : List Nat) (k : Nat) (st st' : Option (List Nat)) : Prop where
  perm : (∀ q, st = some q → q.Perm (List.range n)) → ∀ q, st' = some q → q.Perm (List.range n)
  le : ∀ q0, st = some q0 → ∃ q, st' = some q ∧ dis P q ≤ dis P q0
  all : ∀ r, r.Perm (List.range n) → ∀ o, o < k → (bg ++ [o]) <+: r → ∃ q, st' = some q ∧ dis P q ≤ dis P r
section
variable {P : Nat → Nat → Int} {n k : Nat} {bg : List Nat} {st st' st2 : Option (List Nat)}
theorem Res.leaf0 (hp : bg.Perm (List.range n)) : Res P n bg none (some bg) := by
  refine ⟨fun _ q e => ?_, fun q0 e => (by cases e), fun r hr hb => ?_⟩
  · injection e with e
    rw [← e]
    exact hp
  · have : bg = r := hb.eq_of_length (by rw [hp.length_eq, hr.length_eq])
    subst this
    exact ⟨bg, rfl, Int.le_refl _⟩
theorem Res.leaf1 {q0 : List Nat} (hp : bg.Perm (List.range n)) (h : dis P bg < dis P q0) : Res P n bg (some q0) (some bg) := by
  refine ⟨fun _ q e => ?_, fun q1 e => ?_, fun r hr hb => ?_⟩
  · injection e with e
    rw [← e]
    exact hp
  · injection e with e
    subst e
    exact ⟨bg, rfl, by omega⟩
  · have : bg = r := hb.eq_of_length (by rw [hp.length_eq, hr.length_eq])
    subst this
    exact ⟨bg, rfl, Int.le_refl _⟩
theorem Res.leaf2 {q0 : List Nat} (hp : bg.Perm (List.range n)) (h : ¬ dis P bg < dis P q0) : Res P n bg (some q0) (some q0) := by
  refine ⟨fun hq => hq, fun q1 e => ?_, fun r hr hb => ?_⟩
  · injection e with e
    subst e
    exact ⟨q0, rfl, Int.le_refl _⟩
  · have : bg = r := hb.eq_of_length (by rw [hp.length_eq, hr.length_eq])
    subst this
    exact ⟨q0, rfl, by omega⟩
theorem ResL.start : ResL P n bg 0 st st := ⟨fun h => h, fun q0 e => ⟨q0, e, Int.le_refl _⟩, fun _ _ o ho => by omega⟩
theorem ResL.skip (h : ResL P n bg k st st') (hk : k ∈ bg) : ResL P n bg (k + 1) st st' := by
  refine ⟨h.perm, h.le, fun r hr o ho hb => ?_⟩
  by_cases e : o = k
  · subst e
    have nd : r.Nodup := hr.nodup_iff.2 List.nodup_range
    obtain ⟨t, rfl⟩ := hb
    rw [List.append_assoc] at nd
    exact absurd (List.nodup_append.1 nd).2.2 (fun hd => hd o hk o (by simp) rfl)
  · exact h.all r hr o (by omega) hb
theorem ResL.step (h : ResL P n bg k st st') (s : Res P n (bg ++ [k]) st' st2) : ResL P n bg (k + 1) st st2 := by
  refine ⟨fun hq => s.perm (h.perm hq), fun q0 e => ?_, fun r hr o ho hb => ?_⟩
  · obtain ⟨q, e1, l1⟩ := h.le q0 e
    obtain ⟨q2, e2, l2⟩ := s.le q e1
    exact ⟨q2, e2, Int.le_trans l2 l1⟩
  · by_cases e : o = k
    · subst e
      exact s.all r hr hb
    · obtain ⟨q, e1, l1⟩ := h.all r hr o (by omega) hb
      obtain ⟨q2, e2, l2⟩ := s.le q e1
      exact ⟨q2, e2, Int.le_trans l2 l1⟩
theorem ResL.done (h : ResL P n bg n st st') (hl : bg.length < n) : Res P n bg st st' := by
  refine ⟨h.perm, h.le, fun r hr hb => ?_⟩
  have hrl : r.length = n := by have := hr.length_eq; simpa using this
  obtain ⟨t, rfl⟩ := hb
  cases t with
  | nil => simp at hrl; omega
  | cons o t =>
    exact h.all _ hr o (List.mem_range.1 (hr.mem_iff.1 (by simp))) ⟨t, by simp⟩
end
/-- What the two variables of the search hold. -/
def BS (P : Nat → Nat → Int) (n g : Nat) (w : World) : Option (List Nat) → Prop
  | none => w.cell? ⟨g, 0, none⟩ = some (.slice none 0 0) ∧ w.cell? ⟨g + 1, 0, none⟩ = some (.int .i64 0) ∧ w.frozen? ⟨g, 0, none⟩ = false ∧ w.frozen? ⟨g + 1, 0, none⟩ = false ∧ g + 1 < w.heap.size
  | some q => ∃ b c, w.cell? ⟨g, 0, none⟩ = some (.slice (some ⟨b, 0, none⟩) n c) ∧ OwnI w (g + 2) (some ⟨b, 0, none⟩) n c (zr q) ∧ w.cell? ⟨g + 1, 0, none⟩ = some (.int .i64 (dis P q)) ∧ w.frozen? ⟨g, 0, none⟩ = false ∧ w.frozen? ⟨g + 1, 0, none⟩ = false ∧ g + 1 < w.heap.size
theorem BS.below {P : Nat → Nat → Int} {n g : Nat} {w w' : World} {st : Option (List Nat)} (h : BS P n g w st) (hb : Below w.heap.size w w') : BS P n g w' st := by
  cases st with
  | none =>
    obtain ⟨h1, h2, h3, h4, h5⟩ := h
    exact ⟨(hb.cell (p := ⟨g, 0, none⟩) (by show g < _; omega)).trans h1, (hb.cell (p := ⟨g + 1, 0, none⟩) h5).trans h2, (hb.frozen (p := ⟨g, 0, none⟩) (by show g < _; omega)).trans h3, (hb.frozen (p := ⟨g + 1, 0, none⟩) h5).trans h4, Nat.lt_of_lt_of_le h5 hb.size⟩
  | some q =>
    obtain ⟨b, c, h1, ho, h2, h3, h4, h5⟩ := h
    exact ⟨b, c, (hb.cell (p := ⟨g, 0, none⟩) (by show g < _; omega)).trans h1, ho.below hb, (hb.cell (p := ⟨g + 1, 0, none⟩) h5).trans h2, (hb.frozen (p := ⟨g, 0, none⟩) (by show g < _; omega)).trans h3, (hb.frozen (p := ⟨g + 1, 0, none⟩) h5).trans h4, Nat.lt_of_lt_of_le h5 hb.size⟩
/-- What stays over the whole search. -/
structure Env (P : Nat → Nat → Int) (n g : Nat) (rs : List (List Nat)) (ws : List Int) (RA : Option Addr) (rc : Nat) (WA : Option Addr) (wc : Nat) (g1 gP cP : Nat) (vs : List Value) (f : Value) (w : World) : Prop where
  base : ∃ w0 : World, Below w0.heap.size w0 w ∧ w0.heap.size ≤ g ∧ PrV w0 RA rc WA wc rs ws
  box : Cs w g1 [.slice RA rs.length rc, .slice WA rs.length wc]
  b1 : g1 < g
  pairs : Cs w (g - 1) [.slice (some ⟨gP, 0, none⟩) n cP]
  mat : ∃ lo, MR lo g w (some ⟨gP, 0, none⟩) n cP vs (matF n P)
  fn : Cs w (g + 2) [f]
  g0 : 0 < g
theorem Env.below {P : Nat → Nat → Int} {n g : Nat} {rs : List (List Nat)} {ws : List Int} {RA : Option Addr} {rc : Nat} {WA : Option Addr} {wc g1 gP cP : Nat} {vs : List Value} {f : Value} {w w' : World} (h : Env P n g rs ws RA rc WA wc g1 gP cP vs f w) (hb : Below w.heap.size w w') : Env P n g rs ws RA rc WA wc g1 gP cP vs f w' := by
  obtain ⟨w0, h1, h2, h3⟩ := h.base
  obtain ⟨lo, hm⟩ := h.mat
  exact ⟨⟨w0, bel_trans h1 hb, h2, h3⟩, h.box.below hb, h.b1, h.pairs.below hb, ⟨lo, hm.below hb⟩, h.fn.below hb, h.g0⟩
theorem csOnly {lo hi : Nat} {w w' : World} {g : Nat} {l : List Value} (h : Cs w g l) (o : Only lo hi w w') (hd : g < lo ∨ hi ≤ g) : Cs w' g l :=
  ⟨Nat.lt_of_lt_of_le h.1 o.size, fun j v hj => ⟨(World.cell?_of_block (w := w) (o.block g h.1 hd)).trans (h.2 j v hj).1, (World.frozen?_of_block (w := w) (o.block g h.1 hd)).trans (h.2 j v hj).2⟩⟩
theorem Env.only {P : Nat → Nat → Int} {n g : Nat} {rs : List (List Nat)} {ws : List Int} {RA : Option Addr} {rc : Nat} {WA : Option Addr} {wc g1 gP cP : Nat} {vs : List Value} {f : Value} {w w' : World} (h : Env P n g rs ws RA rc WA wc g1 gP cP vs f w) (o : Only g (g + 2) w w') : Env P n g rs ws RA rc WA wc g1 gP cP vs f w' := by
  obtain ⟨w0, h1, h2, h3⟩ := h.base
  obtain ⟨lo, hm⟩ := h.mat
  have := h.g0
  have := h.b1
  exact ⟨⟨w0, bel_only h1 o h2, h2, h3⟩, csOnly h.box o (.inl h.b1), h.b1, csOnly h.pairs o (.inl (by omega)), ⟨lo, hm.only o (.inl (Nat.le_refl _))⟩, csOnly h.fn o (.inr (Nat.le_refl _)), h.g0⟩
theorem onlyK (w : World) (g j : Nat) (u : Value) : Only g (g + 1) w (w.setCell ⟨g, j, none⟩ u) :=
  ⟨rfl, rfl, rfl, by simp [World.setCell], fun k _ hk => heap_setCell_other w ⟨g, j, none⟩ k u (by simp; omega)⟩
theorem Only.widen {lo hi lo' hi' : Nat} {w w' : World} (o : Only lo hi w w') (h1 : lo' ≤ lo) (h2 : hi ≤ hi') : Only lo' hi' w w' := ⟨o.os, o.tape, o.output, o.size, fun k hk hd => o.block k hk (by omega)⟩
theorem OwnI.onlyK {lo hi base : Nat} {w w' : World} {A : Option Addr} {n c : Nat} {zs : List Int} (h : OwnI w base A n c zs) (o : Only lo hi w w') (hb : hi ≤ base) : OwnI w' base A n c zs := h.only o (fun g hg => by have := (h.block g hg).1; omega)
end Go.Proofs.Ytikcbconfinibaa
