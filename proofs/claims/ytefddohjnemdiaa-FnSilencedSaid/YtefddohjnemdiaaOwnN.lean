/- A slice of int that the call itself made: as that of int64. (Written by a program from the texts on int64.) -/
import Derived.Test.YtefddohjnemdiaaMat
namespace Go.Proofs.Ytefddohjnemdiaa
set_option linter.unusedVariables false
open Go.RowKit
/-- A slice of int64 that the call itself made: block g, from base on. -/
def OwnN (w : World) (base : Nat) (A : Option Addr) (n c : Nat) (zs : List Int) : Prop :=
  w.ownsRow base 3 1 (.slice A n c) n (vals zs) ∧ ∀ z ∈ zs, (Lit.int .i64 z).wf = true
theorem OwnN.ints {w : World} {base : Nat} {A : Option Addr} {n c : Nat} {zs : List Int} (h : OwnN w base A n c zs) : Ints .i64 w A n c zs := by
  obtain ⟨hown, hwf⟩ := h
  have hl : zs.length = n := by have := hown.1; simpa [vals] using this
  rcases hown.2 with ⟨hv, hn⟩ | ⟨g, cap, cur, hv, hb, hg, hnc, hcm, hcs, ht⟩
  · simp only [Value.slice.injEq] at hv
    obtain ⟨rfl, rfl, rfl⟩ := hv
    have : zs = [] := List.eq_nil_of_length_eq_zero hl
    subst this
    exact ints_nil _ _
  · simp only [Value.slice.injEq, true_and] at hv
    obtain ⟨rfl, rfl⟩ := hv
    refine ⟨hl, hnc, hcm, hwf, fun hn => ⟨g, 0, rfl, (Array.getElem?_eq_some_iff.1 hg).1, fun j z hz => ?_⟩⟩
    have := World.ownsRow.cells hown (g := g) rfl j _ (vals_at hz)
    rw [← this, Addr.add_lit]
theorem info_num : (Try.prog.info? 3).map (fun i => (i.zero, i.size, i.bytes)) = some (some (.int .i64 0), 1, 8) := by kernel_rfl
theorem app_num {ops : Array Oper} {rest : List Oper} {o : Oper} {a : Act} {Q : Exit → Act → World → Prop} (w : World) (hgd : o.guard = none) (s x : Operand)
    (ho : o.op = .call { callee := .builtin .append, args := #[s, x], argTypes := #[55, 55] }) (base : Nat)
    (A : Option Addr) (n c : Nat) (zs : List Int) (hs : a.eval s = .slice A n c) (hown : OwnN w base A n c zs) (z : Int) (hz : -9223372036854775808 ≤ z) (hz' : z ≤ 9223372036854775807)
    (hx : a.eval x = .slice (some ⟨w.heap.size, 0, none⟩) 1 1) (hn : n ≤ 1099511627776) (hbase : base ≤ w.heap.size)
    (h : ∀ A' c' w1, OwnN w1 base A' (n + 1) c' (zs ++ [z]) → w.grownBy w1 (Value.slice A n c).ownBlock → wpList Try.prog ops Q rest (a.put o.dst (.slice A' (n + 1) c')) w1) :
    wpList Try.prog ops Q (o :: rest) a (w.alloc (.cells #[.int .i64 z] 3)) := by
  obtain ⟨i0, hi, hz0, hz1, hz2⟩ := info_parts info_num
  refine wp_app1 w hgd s x _ ho base _ i0 _ 8 Try.underlying55 hi hz0 hz1 hz2 rfl A n c (vals zs) hs hown.1 (.int .i64 z) rfl hx (by unfold maxLen; omega) (by omega) hbase ?_
  intro A' c' w1 h1 h2
  refine h A' c' w1 ⟨by rw [vals_snoc]; exact h1, fun y hy => ?_⟩ h2
  rcases List.mem_append.1 hy with hy | hy
  · exact hown.2 y hy
  · simp at hy; subst hy; exact WalkArith.wf_i64 ⟨hz, hz'⟩
theorem ownN_lit (w : World) : OwnN (w.alloc (.cells #[] 3)) w.heap.size (some ⟨w.heap.size, 0, none⟩) 0 0 [] :=
  ⟨by simpa [vals] using World.ownsRow_lit (base := w.heap.size) (e := 3) (size := 1) w #[] 0 (Nat.le_refl _) (by unfold maxLen; omega) rfl, by simp⟩
theorem ownN_nil (w : World) (B : Nat) : OwnN w B none 0 0 [] := ⟨World.ownsRow_nil _ _ _ _, by simp⟩
theorem OwnN.len {w : World} {base : Nat} {A : Option Addr} {n c : Nat} {zs : List Int} (h : OwnN w base A n c zs) : zs.length = n := by
  have := h.1.1; simpa [vals] using this
theorem OwnN.form {w : World} {base : Nat} {A : Option Addr} {n c : Nat} {zs : List Int} (h : OwnN w base A n c zs) (hn : 0 < n) : ∃ g, A = some ⟨g, 0, none⟩ ∧ base ≤ g ∧ g < w.heap.size := by
  rcases h.1.2 with ⟨hv, h0⟩ | ⟨g, cap, cur, hv, hb, hg, _⟩
  · omega
  · simp only [Value.slice.injEq, true_and] at hv
    exact ⟨g, hv.1, hb, (Array.getElem?_eq_some_iff.1 hg).1⟩
theorem OwnN.block {w : World} {base : Nat} {A : Option Addr} {n c : Nat} {zs : List Int} (h : OwnN w base A n c zs) : ∀ g, (Value.slice A n c).ownBlock = some g → base ≤ g ∧ g < w.heap.size := h.1.lt
/-- Kept where another row is written. -/
theorem OwnN.kept {w w' : World} {base : Nat} {A : Option Addr} {n c : Nat} {zs : List Int} {row : Option Nat} (h : OwnN w base A n c zs) (hg : w.grownBy w' row) (hne : (Value.slice A n c).ownBlock = none ∨ (Value.slice A n c).ownBlock ≠ row) : OwnN w' base A n c zs :=
  ⟨h.1.kept hg hne, h.2⟩
theorem OwnN.below {w w' : World} {base : Nat} {A : Option Addr} {n c : Nat} {zs : List Int} (h : OwnN w base A n c zs) (hb : Below w.heap.size w w') : OwnN w' base A n c zs :=
  h.kept (row := none) ⟨hb.os, hb.tape, hb.output, hb.size, fun k hk _ => hb.block k hk⟩ (by cases (Value.slice A n c).ownBlock <;> simp)
theorem OwnN.set {w : World} {base g n c : Nat} {zs : List Int} (h : OwnN w base (some ⟨g, 0, none⟩) n c zs) (j : Nat) (z : Int) (h1 : -9223372036854775808 ≤ z) (h2 : z ≤ 9223372036854775807) :
    OwnN (w.setCell ⟨g, j, none⟩ (.int .i64 z)) base (some ⟨g, 0, none⟩) n c (zs.set j z) ∧ w.grownBy (w.setCell ⟨g, j, none⟩ (.int .i64 z)) (some g) := by
  obtain ⟨a, b⟩ := h.1.stored j (.int .i64 z)
  refine ⟨⟨by rw [← vals_set]; exact a, fun y hy => ?_⟩, b⟩
  rcases List.mem_or_eq_of_mem_set hy with hy | rfl
  · exact h.2 y hy
  · exact WalkArith.wf_i64 ⟨h1, h2⟩
theorem OwnN.cell {w : World} {base g n c : Nat} {zs : List Int} (h : OwnN w base (some ⟨g, 0, none⟩) n c zs) {j : Nat} {z : Int} (hz : zs[j]? = some z) : w.cell? ⟨g, j, none⟩ = some (.int .i64 z) := by
  have := h.1.cells (g := g) rfl j _ (vals_at hz)
  rwa [Addr.add_lit, Nat.zero_add] at this
theorem OwnN.free {w : World} {base g n c : Nat} {zs : List Int} (h : OwnN w base (some ⟨g, 0, none⟩) n c zs) (j : Nat) : w.frozen? ⟨g, j, none⟩ = false := h.1.frozenAt j
theorem OwnN.mono {w : World} {base b2 : Nat} {A : Option Addr} {n c : Nat} {zs : List Int} (h : OwnN w base A n c zs) (hb : b2 ≤ base) : OwnN w b2 A n c zs := by
  refine ⟨⟨h.1.1, ?_⟩, h.2⟩
  rcases h.1.2 with h1 | ⟨g, cap, cur, hv, hg, r⟩
  · exact .inl h1
  · exact .inr ⟨g, cap, cur, hv, Nat.le_trans hb hg, r⟩
theorem belN_grown {W w w' : World} {base : Nat} {A : Option Addr} {n c : Nat} {zs : List Int} (hb : Below W.heap.size W w) (h : OwnN w base A n c zs) (hB : W.heap.size ≤ base) (hg : w.grownBy w' (Value.slice A n c).ownBlock) : Below W.heap.size W w' :=
  hb.grown hg hb.size fun k hk => Nat.le_trans hB (h.block k hk).1
theorem app_num_at {ops : Array Oper} {rest : List Oper} {o : Oper} {a : Act} {Q : Exit → Act → World → Prop} (w : World) (hgd : o.guard = none) (s x : Operand)
    (ho : o.op = .call { callee := .builtin .append, args := #[s, x], argTypes := #[55, 55] }) (base : Nat)
    (A : Option Addr) (n c : Nat) (zs : List Int) (hs : a.eval s = .slice A n c) (hown : OwnN w base A n c zs) (z : Int) (hz : -9223372036854775808 ≤ z) (hz' : z ≤ 9223372036854775807)
    (hx : a.eval x = .slice (some ⟨w.heap.size, 0, none⟩) 1 1) (hn : n ≤ 1099511627776) (hbase : base ≤ w.heap.size)
    (h : ∀ A' c' w1, OwnN w1 base A' (n + 1) c' (zs ++ [z]) → w.grownBy w1 (Value.slice A n c).ownBlock → NewBlk w (.slice A n c) (.slice A' (n + 1) c') → wpList Try.prog ops Q rest (a.put o.dst (.slice A' (n + 1) c')) w1) :
    wpList Try.prog ops Q (o :: rest) a (w.alloc (.cells #[.int .i64 z] 3)) := by
  obtain ⟨i0, hi, hz0, hz1, hz2⟩ := info_parts info_num
  refine wpList_append_own_at _ hgd s x _ ho base _ i0 _ 1 8 Try.underlying55 hi hz0 hz1 hz2 rfl (by decide) _ n (vals zs) hs (hown.1.alloc _) ⟨w.heap.size, 0, none⟩ 1 1 [.int .i64 z] hx rfl (cell_one_new _ _ _) (by simp [Value.oneCell']) (by unfold maxLen; omega) (by omega) (by simp; omega) ?_
  intro v' w1 h2 h3 _ h5
  rcases h2.2 with ⟨rfl, h0⟩ | ⟨g, cap, cur, rfl, hr⟩
  · exact absurd h0 (by omega)
  · refine h _ _ w1 ⟨by rw [vals_snoc]; exact h2, fun y hy => ?_⟩ ⟨h3.os, h3.tape, h3.output, Nat.le_trans (by simp) h3.size, fun k hk hne => (h3.block k (by simp; omega) hne).trans (Below.heap_alloc w _ k hk)⟩ ?_
    · rcases List.mem_append.1 hy with hy | hy
      · exact hown.2 y hy
      · simp at hy; subst hy; exact WalkArith.wf_i64 ⟨hz, hz'⟩
    · rcases h5 with e | e
      · exact .inl e
      · exact .inr ⟨_, e, by simp⟩
/-- A row is kept where one that leads elsewhere is written. -/
theorem OwnN.kept_apart {w w' : World} {base : Nat} {A : Option Addr} {n c : Nat} {zs : List Int} {v : Value} (h : OwnN w base A n c zs) (ha : Apart (.slice A n c) v) (hg : w.grownBy w' v.ownBlock) : OwnN w' base A n c zs := h.kept hg ha
theorem ownN_lits (w : World) (zs : List Int) (hz : ∀ z ∈ zs, (Lit.int .i64 z).wf = true) (hl : zs.length ≤ 1048576) :
    OwnN (w.alloc (.cells (vals zs).toArray 3)) w.heap.size (some ⟨w.heap.size, 0, none⟩) zs.length zs.length zs :=
  ⟨by simpa using World.ownsRow_lit (base := w.heap.size) (e := 3) (size := 1) w (vals zs).toArray zs.length (Nat.le_refl _) (by unfold maxLen; omega) (by simp [vals]), hz⟩
theorem ownN_ne_old {w : World} {base g : Nat} {A : Option Addr} {n c : Nat} {zs : List Int} (h : OwnN w base A n c zs) (hg : g < base) : (Value.slice A n c).ownBlock = none ∨ (Value.slice A n c).ownBlock ≠ some g := by
  cases hv : (Value.slice A n c).ownBlock with
  | none => exact .inl rfl
  | some x => exact .inr (fun e => by injection e with e; have := (h.block x hv).1; omega)
end Go.Proofs.Ytefddohjnemdiaa
