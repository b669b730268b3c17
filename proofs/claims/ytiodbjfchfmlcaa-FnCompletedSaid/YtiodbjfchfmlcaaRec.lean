/- Slices of structs of one-cell fields: read (Recs), or made by the call itself (OwnR). -/
import Derived.Test.YtiodbjfchfmlcaaMat
namespace Go.Proofs.Ytiodbjfchfmlcaa
set_option linter.unusedVariables false
open Go.RowKit
/-- A slice value reads as records of s cells each. -/
def Recs (s : Nat) (w : World) (A : Option Addr) (n c : Nat) (rs : List (List Value)) : Prop :=
  rs.length = n ∧ n ≤ c ∧ c ≤ maxLen ∧
  (0 < n → ∃ b off, A = some ⟨b, off, none⟩ ∧ b < w.heap.size ∧ ∀ (j i : Nat) (r : List Value) (v : Value), rs[j]? = some r → r[i]? = some v → w.cell? ⟨b, off + j * s + i, none⟩ = some v)
section
variable {s : Nat} {w w' : World} {A : Option Addr} {n c : Nat} {rs : List (List Value)}
theorem Recs.below (h : Recs s w A n c rs) (hb : Below w.heap.size w w') : Recs s w' A n c rs := by
  obtain ⟨h1, h2, h3, h5⟩ := h
  refine ⟨h1, h2, h3, fun hn => ?_⟩
  obtain ⟨b, off, hA, hbk, hc⟩ := h5 hn
  exact ⟨b, off, hA, Nat.lt_of_lt_of_le hbk hb.size, fun j i r v hr hv => (hb.cell (p := ⟨b, off + j * s + i, none⟩) hbk).trans (hc j i r v hr hv)⟩
theorem Recs.short (h : Recs s w A n c rs) : n ≤ 9223372036854775807 := by
  have := h.2.1; have := h.2.2.1; unfold maxLen at *; omega
theorem Recs.at (h : Recs s w A n c rs) {j : Nat} (hj : j < n) :
    ∃ b off r, A = some ⟨b, off, none⟩ ∧ b < w.heap.size ∧ Hid (rs[j]? = some r) ∧ ∀ i v, r[i]? = some v → w.cell? ⟨b, off + j * s + i, none⟩ = some v := by
  obtain ⟨h1, h2, h3, h5⟩ := h
  obtain ⟨b, off, hA, hb, hc⟩ := h5 (by omega)
  exact ⟨b, off, _, hA, hb, List.getElem?_eq_getElem (by omega), fun i v => hc j i _ v (List.getElem?_eq_getElem (by omega))⟩
theorem recs_nil (s : Nat) (w : World) : Recs s w none 0 0 [] := ⟨rfl, Nat.le_refl _, by unfold maxLen; omega, fun h => absurd h (by omega)⟩
end
theorem flat_len {s : Nat} : ∀ {rs : List (List Value)}, (∀ r ∈ rs, r.length = s) → rs.flatten.length = rs.length * s
  | [], _ => by simp
  | r :: rs, h => by
    rw [List.flatten_cons, List.length_append, flat_len (fun q hq => h q (List.mem_cons_of_mem _ hq)), h r (List.mem_cons_self ..), List.length_cons, Nat.succ_mul]
    omega
theorem flat_at {s : Nat} : ∀ {rs : List (List Value)}, (∀ r ∈ rs, r.length = s) → ∀ {j i : Nat} {r : List Value} {v : Value}, rs[j]? = some r → r[i]? = some v → rs.flatten[j * s + i]? = some v
  | [], _, j, i, r, v, hr, _ => by simp at hr
  | q :: rs, h, 0, i, r, v, hr, hv => by
    simp at hr
    subst hr
    rw [List.flatten_cons, Nat.zero_mul, Nat.zero_add, List.getElem?_append_left (List.getElem?_eq_some_iff.1 hv).1]
    exact hv
  | q :: rs, h, j + 1, i, r, v, hr, hv => by
    have hq := h q (List.mem_cons_self ..)
    rw [List.flatten_cons, List.getElem?_append_right (by rw [hq, Nat.succ_mul]; omega), hq, show (j + 1) * s + i - s = j * s + i by rw [Nat.succ_mul]; omega]
    exact flat_at (fun q hq => h q (List.mem_cons_of_mem _ hq)) (by simpa using hr) hv
theorem flat_set {s : Nat} : ∀ {rs : List (List Value)}, (∀ r ∈ rs, r.length = s) → ∀ {j i : Nat} {r : List Value} (u : Value), rs[j]? = some r → i < s → rs.flatten.set (j * s + i) u = (rs.set j (r.set i u)).flatten
  | [], _, j, i, r, u, hr, _ => by simp at hr
  | q :: rs, h, 0, i, r, u, hr, hi => by
    have hq := h q (List.mem_cons_self ..)
    simp at hr
    subst hr
    rw [List.flatten_cons, Nat.zero_mul, Nat.zero_add, List.set_append_left _ _ (by omega), List.set_cons_zero, List.flatten_cons]
  | q :: rs, h, j + 1, i, r, u, hr, hi => by
    have hq := h q (List.mem_cons_self ..)
    rw [List.flatten_cons, List.set_append_right _ _ (by rw [hq, Nat.succ_mul]; omega), hq, show (j + 1) * s + i - s = j * s + i by rw [Nat.succ_mul]; omega, List.set_cons_succ, List.flatten_cons,
      flat_set (fun q hq => h q (List.mem_cons_of_mem _ hq)) u (by simpa using hr) hi]
/-- Records that the call itself made: block g, from base on. -/
def OwnR (t s : Nat) (w : World) (base : Nat) (A : Option Addr) (n c : Nat) (rs : List (List Value)) : Prop :=
  w.ownsRow base t s (.slice A n c) n rs.flatten ∧ rs.length = n ∧ ∀ r ∈ rs, r.length = s
section
variable {t s : Nat} {w w' : World} {base : Nat} {A : Option Addr} {n c : Nat} {rs : List (List Value)}
theorem OwnR.form (h : OwnR t s w base A n c rs) (hn : 0 < n) : ∃ g, A = some ⟨g, 0, none⟩ ∧ base ≤ g ∧ g < w.heap.size := by
  rcases h.1.2 with ⟨hv, h0⟩ | ⟨g, cap, cur, hv, hb, hg, _⟩
  · omega
  · simp only [Value.slice.injEq, true_and] at hv
    exact ⟨g, hv.1, hb, (Array.getElem?_eq_some_iff.1 hg).1⟩
theorem OwnR.block (h : OwnR t s w base A n c rs) : ∀ g, (Value.slice A n c).ownBlock = some g → base ≤ g ∧ g < w.heap.size := h.1.lt
theorem OwnR.kept {row : Option Nat} (h : OwnR t s w base A n c rs) (hg : w.grownBy w' row) (hne : (Value.slice A n c).ownBlock = none ∨ (Value.slice A n c).ownBlock ≠ row) : OwnR t s w' base A n c rs :=
  ⟨h.1.kept hg hne, h.2⟩
theorem OwnR.below (h : OwnR t s w base A n c rs) (hb : Below w.heap.size w w') : OwnR t s w' base A n c rs :=
  h.kept (row := none) ⟨hb.os, hb.tape, hb.output, hb.size, fun k hk _ => hb.block k hk⟩ (by cases (Value.slice A n c).ownBlock <;> simp)
theorem OwnR.mono {b2 : Nat} (h : OwnR t s w base A n c rs) (hb : b2 ≤ base) : OwnR t s w b2 A n c rs := by
  refine ⟨⟨h.1.1, ?_⟩, h.2⟩
  rcases h.1.2 with h1 | ⟨g, cap, cur, hv, hg, r⟩
  · exact .inl h1
  · exact .inr ⟨g, cap, cur, hv, Nat.le_trans hb hg, r⟩
theorem OwnR.cap (h : OwnR t s w base A n c rs) : n ≤ c ∧ c ≤ maxLen := by
  rcases h.1.2 with ⟨hv, hn⟩ | ⟨g, cap, cur, hv, hb, hg, hnc, hcm, hcs, ht⟩
  · simp only [Value.slice.injEq] at hv
    obtain ⟨rfl, rfl, rfl⟩ := hv
    exact ⟨Nat.le_refl _, by unfold maxLen; omega⟩
  · simp only [Value.slice.injEq, true_and] at hv
    obtain ⟨rfl, rfl⟩ := hv
    exact ⟨hnc, hcm⟩
theorem OwnR.recs (h : OwnR t s w base A n c rs) : Recs s w A n c rs := by
  refine ⟨h.2.1, h.cap.1, h.cap.2, fun hn => ?_⟩
  obtain ⟨g, rfl, h1, h2⟩ := h.form hn
  refine ⟨g, 0, rfl, h2, fun j i r v hr hv => ?_⟩
  have := h.1.cells (g := g) rfl _ _ (flat_at h.2.2 hr hv)
  rw [Addr.add_lit] at this
  rw [← this]
  congr 2
  omega
theorem OwnR.free {g : Nat} (h : OwnR t s w base (some ⟨g, 0, none⟩) n c rs) (j : Nat) : w.frozen? ⟨g, j, none⟩ = false := h.1.frozenAt j
theorem OwnR.cell {g : Nat} (h : OwnR t s w base (some ⟨g, 0, none⟩) n c rs) {j i : Nat} {r : List Value} {v : Value} (hr : rs[j]? = some r) (hv : r[i]? = some v) : w.cell? ⟨g, j * s + i, none⟩ = some v := by
  have := h.1.cells (g := g) rfl _ _ (flat_at h.2.2 hr hv)
  rw [Addr.add_lit, Nat.zero_add] at this
  exact this
theorem OwnR.put {g : Nat} (h : OwnR t s w base (some ⟨g, 0, none⟩) n c rs) {j i : Nat} {r : List Value} (u : Value) (hr : rs[j]? = some r) (hi : i < s) :
    OwnR t s (w.setCell ⟨g, j * s + i, none⟩ u) base (some ⟨g, 0, none⟩) n c (rs.set j (r.set i u)) ∧ w.grownBy (w.setCell ⟨g, j * s + i, none⟩ u) (some g) := by
  obtain ⟨a, b⟩ := h.1.stored (j * s + i) u
  refine ⟨⟨by rw [← flat_set h.2.2 u hr hi]; exact a, by rw [List.length_set]; exact h.2.1, fun q hq => ?_⟩, b⟩
  rcases List.mem_or_eq_of_mem_set hq with hq | rfl
  · exact h.2.2 q hq
  · rw [List.length_set]; exact h.2.2 r (List.mem_of_getElem? hr)
theorem ownR_nil (t s : Nat) (w : World) (B : Nat) : OwnR t s w B none 0 0 [] := ⟨World.ownsRow_nil _ _ _ _, rfl, by simp⟩
theorem ownR_lits (w : World) (hr : ∀ r ∈ rs, r.length = s) (hl : rs.length ≤ maxLen) : OwnR t s (w.alloc (.cells rs.flatten.toArray t)) w.heap.size (some ⟨w.heap.size, 0, none⟩) rs.length rs.length rs := by
  refine ⟨?_, rfl, hr⟩
  have := World.ownsRow_lit (base := w.heap.size) (e := t) (size := s) w rs.flatten.toArray rs.length (Nat.le_refl _) hl (by simp [flat_len hr])
  simpa using this
end
/-- append of one record. -/
theorem app_rec {P : Program} (w : World) {ops : Array Oper} {rest : List Oper} {o : Oper} {a : Act} {Q : Exit → Act → World → Prop} (hgd : o.guard = none) (sl x : Operand) (t e : TypeId)
    (ho : o.op = .call { callee := .builtin .append, args := #[sl, x], argTypes := #[t, t] })
    (base : Nat) (i : TypeInfo) (z : Value) (s bytes : Nat) (ht : P.underlying t = some (.slice e)) (hi : P.info? e = some i) (hz : i.zero = some z)
    (hsize : i.size = s) (hby : i.bytes = bytes) (hzs : z.cells.size = s) (hsz : 0 < s)
    (A : Option Addr) (n c : Nat) (rs : List (List Value)) (hs : a.eval sl = .slice A n c) (hown : OwnR e s w base A n c rs)
    (r : List Value) (hrl : r.length = s) (hr1 : ∀ u ∈ r, u.oneCell' = true) (hx : a.eval x = .slice (some ⟨w.heap.size, 0, none⟩) 1 1)
    (h63 : n + 1 ≤ maxLen) (hbytes : (n + 1) * bytes ≤ 140737488355328) (hbase : base ≤ w.heap.size)
    (h : ∀ A' c' w1, OwnR e s w1 base A' (n + 1) c' (rs ++ [r]) → w.grownBy w1 (Value.slice A n c).ownBlock → NewBlk w (.slice A n c) (.slice A' (n + 1) c') → wpList P ops Q rest (a.put o.dst (.slice A' (n + 1) c')) w1) :
    wpList P ops Q (o :: rest) a (w.alloc (.cells r.toArray e)) := by
  refine wpList_append_own_at _ hgd sl x t ho base e i z s bytes ht hi hz hsize hby hzs hsz _ n rs.flatten hs (hown.1.alloc _) ⟨w.heap.size, 0, none⟩ 1 1 r hx (by omega) ?_ hr1 h63 hbytes (by simp; omega) ?_
  · intro j v hj
    rw [Addr.add_lit, Nat.zero_add, World.cell?_alloc_at _ _ _ _ rfl]
    simpa using hj
  intro v' w1 h2 h3 _ h5
  rcases h2.2 with ⟨rfl, h0⟩ | ⟨g, cap, cur, rfl, hr⟩
  · exact absurd h0 (by omega)
  · refine h _ _ w1 ⟨by simpa using h2, by rw [List.length_append, hown.2.1]; rfl, fun q hq => ?_⟩ ⟨h3.os, h3.tape, h3.output, Nat.le_trans (by simp) h3.size, fun k hk hne => (h3.block k (by simp; omega) hne).trans (Below.heap_alloc w _ k hk)⟩ ?_
    · rcases List.mem_append.1 hq with hq | hq
      · exact hown.2.2 q hq
      · simp at hq; subst hq; exact hrl
    · rcases h5 with e | e
      · exact .inl e
      · exact .inr ⟨_, e, by simp⟩
end Go.Proofs.Ytiodbjfchfmlcaa
