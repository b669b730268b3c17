/- Slices of slices of int64 that the call itself made: one block for the outer slice, one for each row, no two the same. -/
import Derived.Test.YteehbnanjgmliaaDoorMark
import Derived.Maps.AppendAt
namespace Go.Proofs.YteehbnanjgmliaaDoor
set_option linter.unusedVariables false
open Go.RowKit

theorem own_ne {w : World} {b1 b2 e1 e2 s1 s2 n1 n2 : Nat} {v1 v2 : Value} {xs ys : List Value} (h : w.ownsRow b1 e1 s1 v1 n1 xs) (k : w.ownsRow b2 e2 s2 v2 n2 ys) (hne : e1 ≠ e2) : v1.ownBlock = none ∨ v1.ownBlock ≠ v2.ownBlock := by
  rcases h.2 with ⟨rfl, _⟩ | ⟨g, cap, cur, rfl, _, hg, _⟩
  · exact .inl rfl
  · refine .inr fun e => ?_
    rcases k.2 with ⟨rfl, _⟩ | ⟨g', cap', cur', rfl, _, hg', _⟩
    · simp [Value.ownBlock] at e
    · have : g = g' := by simpa [Value.ownBlock] using e
      subst this
      rw [hg] at hg'
      simp at hg'
      exact hne hg'.2

/-- Two values lead to no common block. -/
def Apart (u v : Value) : Prop := u.ownBlock = none ∨ u.ownBlock ≠ v.ownBlock
theorem Apart.symm {u v : Value} (h : Apart u v) : Apart v u := by
  unfold Apart at *
  cases hv : v.ownBlock with
  | none => exact .inl rfl
  | some g => rw [hv] at h; rcases h with h | h
              · rw [h]; exact .inr (by simp)
              · exact .inr (fun e => h e.symm)

/-- vs are the slice values of the rows zss. -/
structure OwnM (w : World) (base : Nat) (A : Option Addr) (n c : Nat) (vs : List Value) (zss : List (List Int)) : Prop where
  outer : w.ownsRow base 30 1 (.slice A n c) n vs
  len : zss.length = n
  row : ∀ (j : Nat) (zs : List Int), zss[j]? = some zs → ∃ A' c', vs[j]? = some (Value.slice A' zs.length c') ∧ OwnI w base A' zs.length c' zs
  apart : vs.Pairwise Apart

section
variable {w w' : World} {base : Nat} {A : Option Addr} {n c : Nat} {vs : List Value} {zss : List (List Int)}
theorem OwnM.vlen (h : OwnM w base A n c vs zss) : vs.length = n := by have := h.outer.1; simpa using this
theorem OwnM.form (h : OwnM w base A n c vs zss) (hn : 0 < n) : ∃ g, A = some ⟨g, 0, none⟩ ∧ base ≤ g ∧ g < w.heap.size := by
  rcases h.outer.2 with ⟨hv, h0⟩ | ⟨g, cap, cur, hv, hb, hg, _⟩
  · omega
  · simp only [Value.slice.injEq, true_and] at hv
    exact ⟨g, hv.1, hb, (Array.getElem?_eq_some_iff.1 hg).1⟩
theorem OwnM.at (h : OwnM w base A n c vs zss) {j : Nat} (hj : j < n) :
    ∃ g A' c' zs, A = some ⟨g, 0, none⟩ ∧ base ≤ g ∧ g < w.heap.size ∧ Hid (zss[j]? = some zs) ∧ w.cell? ⟨g, j, none⟩ = some (.slice A' zs.length c') ∧ OwnI w base A' zs.length c' zs ∧ Hid (vs[j]? = some (Value.slice A' zs.length c')) := by
  obtain ⟨g, rfl, hg1, hg2⟩ := h.form (by omega)
  have hl : j < zss.length := by have := h.len; omega
  obtain ⟨A', c', hv, ho⟩ := h.row j _ (List.getElem?_eq_getElem hl)
  have hc := h.outer.cells (g := g) rfl j _ hv
  rw [Addr.add_lit, Nat.zero_add] at hc
  exact ⟨g, A', c', _, rfl, hg1, hg2, List.getElem?_eq_getElem hl, hc, ho, hv⟩
theorem OwnM.blocks (h : OwnM w base A n c vs zss) : ∀ v ∈ vs, ∀ g, v.ownBlock = some g → base ≤ g ∧ g < w.heap.size := by
  intro v hv g hg
  obtain ⟨j, hj, rfl⟩ := List.getElem_of_mem hv
  have hl : j < zss.length := by have := h.len; have := h.vlen; omega
  obtain ⟨A', c', hv', ho⟩ := h.row j _ (List.getElem?_eq_getElem hl)
  have e1 : vs[j] = .slice A' (zss[j]).length c' := by
    have := List.getElem?_eq_getElem hj
    rw [hv'] at this; simpa using this.symm
  rw [e1] at hg
  exact ho.block g hg
theorem OwnM.block (h : OwnM w base A n c vs zss) : ∀ g, (Value.slice A n c).ownBlock = some g → base ≤ g ∧ g < w.heap.size := h.outer.lt
/-- Kept where a block is written that is none of its own. -/
theorem OwnM.kept {row : Option Nat} (h : OwnM w base A n c vs zss) (hg : w.grownBy w' row) (ho : (Value.slice A n c).ownBlock = none ∨ (Value.slice A n c).ownBlock ≠ row)
    (hr : ∀ v ∈ vs, v.ownBlock = none ∨ v.ownBlock ≠ row) : OwnM w' base A n c vs zss := by
  refine ⟨h.outer.kept hg ho, h.len, fun j zs hz => ?_, h.apart⟩
  obtain ⟨A', c', hv, hi⟩ := h.row j zs hz
  exact ⟨A', c', hv, hi.kept hg (hr _ (List.mem_of_getElem? hv))⟩
theorem OwnM.kept_out {row : Option Nat} (h : OwnM w base A n c vs zss) (hg : w.grownBy w' row) (hr : ∀ r, row = some r → r < base) : OwnM w' base A n c vs zss := by
  refine h.kept hg ?_ ?_
  · cases hv : (Value.slice A n c).ownBlock with
    | none => exact .inl rfl
    | some g => exact .inr (fun e => by have := (h.block g hv).1; have := hr g e.symm; omega)
  · intro v hv
    cases hb : v.ownBlock with
    | none => exact .inl rfl
    | some g => exact .inr (fun e => by have := (h.blocks v hv g hb).1; have := hr g e.symm; omega)
theorem OwnM.below (h : OwnM w base A n c vs zss) (hb : Below w.heap.size w w') : OwnM w' base A n c vs zss :=
  h.kept (row := none) ⟨hb.os, hb.tape, hb.output, hb.size, fun k hk _ => hb.block k hk⟩ (by cases (Value.slice A n c).ownBlock <;> simp) (fun v _ => by cases v.ownBlock <;> simp)
theorem OwnM.mono {b2 : Nat} (h : OwnM w base A n c vs zss) (hb : b2 ≤ base) : OwnM w b2 A n c vs zss := by
  refine ⟨⟨h.outer.1, ?_⟩, h.len, fun j zs hz => ?_, h.apart⟩
  · rcases h.outer.2 with h1 | ⟨g, cap, cur, hv, hg, r⟩
    · exact .inl h1
    · exact .inr ⟨g, cap, cur, hv, Nat.le_trans hb hg, r⟩
  · obtain ⟨A', c', hv, ho⟩ := h.row j zs hz
    exact ⟨A', c', hv, ho.mono hb⟩
theorem ownM_lit (w : World) : OwnM (w.alloc (.cells #[] 30)) w.heap.size (some ⟨w.heap.size, 0, none⟩) 0 0 [] [] :=
  ⟨by simpa using World.ownsRow_lit (base := w.heap.size) (e := 30) (size := 1) w #[] 0 (Nat.le_refl _) (by unfold maxLen; omega) rfl, rfl, by simp, .nil⟩
end
theorem info_row : (Tryd.prog.info? 30).map (fun i => (i.zero, i.size, i.bytes)) = some (some (.slice none 0 0), 1, 24) := by kernel_rfl
/-- append of one row. -/
theorem app_row {ops : Array Oper} {rest : List Oper} {o : Oper} {a : Act} {Q : Exit → Act → World → Prop} (w : World) (hgd : o.guard = none) (s x : Operand)
    (ho : o.op = .call { callee := .builtin .append, args := #[s, x], argTypes := #[22, 22] }) (base : Nat)
    (A : Option Addr) (n c : Nat) (vs : List Value) (zss : List (List Int)) (hs : a.eval s = .slice A n c) (hown : OwnM w base A n c vs zss)
    (B : Option Addr) (m d : Nat) (zs : List Int) (hrow : OwnI w base B m d zs) (hap : ∀ v ∈ vs, Apart v (.slice B m d))
    (hx : a.eval x = .slice (some ⟨w.heap.size, 0, none⟩) 1 1) (hn : n ≤ 1099511627776) (hbase : base ≤ w.heap.size)
    (h : ∀ A' c' w1, OwnM w1 base A' (n + 1) c' (vs ++ [Value.slice B m d]) (zss ++ [zs]) → w.grownBy w1 (Value.slice A n c).ownBlock → wpList Tryd.prog ops Q rest (a.put o.dst (.slice A' (n + 1) c')) w1) :
    wpList Tryd.prog ops Q (o :: rest) a (w.alloc (.cells #[.slice B m d] 30)) := by
  obtain ⟨i0, hi, hz0, hz1, hz2⟩ := info_parts info_row
  have hm : zs.length = m := hrow.len
  refine wp_app1 w hgd s x _ ho base _ i0 _ 24 Tryd.underlying22 hi hz0 hz1 hz2 rfl A n c vs hs hown.outer (.slice B m d) rfl hx (by unfold maxLen; omega) (by omega) hbase ?_
  intro A' c' w1 h1 h2
  refine h A' c' w1 ⟨h1, by rw [List.length_append, hown.len]; rfl, fun j ys hy => ?_, ?_⟩ h2
  · have hvl := hown.vlen
    have hzl := hown.len
    have keep : ∀ {B' : Option Addr} {m' d' : Nat} {us : List Int}, OwnI w base B' m' d' us → OwnI w1 base B' m' d' us := fun hu =>
      hu.kept h2 (own_ne hu.1 hown.outer (by decide))
    rcases Nat.lt_or_ge j n with hj | hj
    · rw [List.getElem?_append_left (by omega)] at hy
      obtain ⟨A2, c2, hv, hi2⟩ := hown.row j ys hy
      exact ⟨A2, c2, by rw [List.getElem?_append_left (by omega)]; exact hv, keep hi2⟩
    · rw [List.getElem?_append_right (by omega)] at hy
      have hj0 : j - zss.length = 0 := by
        rcases Nat.eq_zero_or_pos (j - zss.length) with e | e
        · exact e
        · rw [List.getElem?_eq_none (by simp; omega)] at hy; cases hy
      rw [hj0] at hy
      simp at hy
      subst hy
      refine ⟨B, d, ?_, by rw [hm]; exact keep hrow⟩
      rw [List.getElem?_append_right (by omega), show j - vs.length = 0 by omega, hm]
      rfl
  · rw [List.pairwise_append]
    exact ⟨hown.apart, by simp, fun u hu v hv => by simp at hv; subst hv; exact hap u hu⟩
/-- A row that was made later than the others leads to a block of its own. -/
theorem apart_new {vs : List Value} {w : World} {base L : Nat} {B : Option Addr} {m d : Nat} {zs : List Int} (hv : ∀ v ∈ vs, ∀ g, v.ownBlock = some g → g < L) (hrow : OwnI w L B m d zs) : ∀ v ∈ vs, Apart v (.slice B m d) := by
  intro v hvm
  cases hb : v.ownBlock with
  | none => exact .inl hb
  | some g =>
    refine .inr fun e => ?_
    rw [hb] at e
    have h1 := hv v hvm g hb
    have h2 := (hrow.block g e.symm).1
    omega

/-- The row behind an append lies where it lay, or in a block that was not there. -/
def NewBlk (w : World) (v v' : Value) : Prop := v'.ownBlock = v.ownBlock ∨ ∃ g, v'.ownBlock = some g ∧ w.heap.size ≤ g
theorem apart_step {w : World} {v v' u : Value} (h : Apart v u) (hn : NewBlk w v v') (hu : ∀ g, u.ownBlock = some g → g < w.heap.size) : Apart v' u := by
  rcases hn with e | ⟨g, e, hg⟩
  · unfold Apart at *; rw [e]; exact h
  · refine .inr fun e2 => ?_
    have := hu g (e2 ▸ e)
    omega
theorem app_int_at {ops : Array Oper} {rest : List Oper} {o : Oper} {a : Act} {Q : Exit → Act → World → Prop} (w : World) (hgd : o.guard = none) (s x : Operand)
    (ho : o.op = .call { callee := .builtin .append, args := #[s, x], argTypes := #[30, 30] }) (base : Nat)
    (A : Option Addr) (n c : Nat) (zs : List Int) (hs : a.eval s = .slice A n c) (hown : OwnI w base A n c zs) (z : Int) (hz : -9223372036854775808 ≤ z) (hz' : z ≤ 9223372036854775807)
    (hx : a.eval x = .slice (some ⟨w.heap.size, 0, none⟩) 1 1) (hn : n ≤ 1099511627776) (hbase : base ≤ w.heap.size)
    (h : ∀ A' c' w1, OwnI w1 base A' (n + 1) c' (zs ++ [z]) → w.grownBy w1 (Value.slice A n c).ownBlock → NewBlk w (.slice A n c) (.slice A' (n + 1) c') → wpList Tryd.prog ops Q rest (a.put o.dst (.slice A' (n + 1) c')) w1) :
    wpList Tryd.prog ops Q (o :: rest) a (w.alloc (.cells #[.int .i64 z] 2)) := by
  obtain ⟨i0, hi, hz0, hz1, hz2⟩ := info_parts info_int
  refine wpList_append_own_at _ hgd s x _ ho base _ i0 _ 1 8 Tryd.underlying30 hi hz0 hz1 hz2 rfl (by decide) _ n (vals zs) hs (hown.1.alloc _) ⟨w.heap.size, 0, none⟩ 1 1 [.int .i64 z] hx rfl (cell_one_new _ _ _) (by simp [Value.oneCell']) (by unfold maxLen; omega) (by omega) (by simp; omega) ?_
  intro v' w1 h2 h3 _ h5
  rcases h2.2 with ⟨rfl, h0⟩ | ⟨g, cap, cur, rfl, hr⟩
  · exact absurd h0 (by omega)
  · refine h _ _ w1 ⟨by rw [vals_snoc]; exact h2, fun y hy => ?_⟩ ⟨h3.os, h3.tape, h3.output, Nat.le_trans (by simp) h3.size, fun k hk hne => (h3.block k (by simp; omega) hne).trans (Below.heap_alloc w _ k hk)⟩ ?_
    · rcases List.mem_append.1 hy with hy | hy
      · exact hown.2 y hy
      · simp at hy; subst hy; exact WalkArith.wf_i64 ⟨hz, hz'⟩
    · rcases h5 with e | e
      · exact .inl e
      · exact .inr ⟨_, e, by simp⟩
/-- A row is kept where one that leads elsewhere is written. -/
theorem OwnI.kept_apart {w w' : World} {base : Nat} {A : Option Addr} {n c : Nat} {zs : List Int} {v : Value} (h : OwnI w base A n c zs) (ha : Apart (.slice A n c) v) (hg : w.grownBy w' v.ownBlock) : OwnI w' base A n c zs := h.kept hg ha
end Go.Proofs.YteehbnanjgmliaaDoor
