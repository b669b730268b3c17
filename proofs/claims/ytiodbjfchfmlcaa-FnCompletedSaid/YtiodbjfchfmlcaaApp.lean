/- append of one slice of int64 to a row of the call's own. -/
import Derived.Test.YtiodbjfchfmlcaaMat
import Derived.Maps.AppendAt
import Derived.OwnWalk
namespace Go.Proofs.Ytiodbjfchfmlcaa
set_option linter.unusedVariables false
open Go.RowKit
theorem run_app_nil {P : Program} (w : World) (base : Nat) (t ty e : TypeId) (i : TypeInfo) (size : Nat) (ht : P.underlying t = some (.slice e)) (hi : P.info? e = some i)
    (v : Value) (n : Nat) (xs : List Value) (hown : w.ownsRow base e size v n xs) (c : Nat) : (Builtin.append_ #[t, t] ty #[v, .slice none 0 c]).run P w = .ok v w := by
  rcases hown.2 with ⟨rfl, rfl⟩ | ⟨g, cap, cur, rfl, _, _, hnc, _⟩
  · simp [Builtin.append_, run_underlying ht, sizeOf, typeInfo, hi, Builtin.lenOf, Builtin.firstCells]
  · simp [Builtin.append_, run_underlying ht, sizeOf, typeInfo, hi, Builtin.lenOf, Builtin.firstCells, hnc, storeCells]
theorem own_slice {w : World} {base e n : Nat} {v : Value} {xs : List Value} (h : w.ownsRow base e 1 v n xs) : ∃ A c, v = .slice A n c := by
  rcases h.2 with ⟨rfl, rfl⟩ | ⟨g, cap, cur, rfl, _⟩
  · exact ⟨none, 0, rfl⟩
  · exact ⟨_, _, rfl⟩
theorem run_app_ints (w : World) (ty : TypeId) (base : Nat) (A : Option Addr) (n c : Nat) (zs : List Int) (hown : OwnI w base A n c zs) (B : Option Addr) (m d d' : Nat) (ys : List Int) (hr : Ints .i64 w B m d' ys)
    (hn : n ≤ 1048576) (hm : m ≤ 1048576) (hbase : base ≤ w.heap.size) :
    ∃ A' c' w', (Builtin.append_ #[24, 24] ty #[.slice A n c, .slice B m d]).run Try.prog w = .ok (.slice A' (n + m) c') w' ∧ OwnI w' base A' (n + m) c' (zs ++ ys) ∧ w.grownBy w' (Value.slice A n c).ownBlock ∧
      NewBlk w (.slice A n c) (.slice A' (n + m) c') := by
  obtain ⟨i0, hi, hz0, hz1, hz2⟩ := info_parts info_int
  have hwf : ∀ z ∈ zs ++ ys, (Lit.int .i64 z).wf = true := fun z hz => by
    rcases List.mem_append.1 hz with hz | hz
    · exact hown.2 z hz
    · exact hr.2.2.2.1 z hz
  rcases B with _ | ad
  · have hm0 : m = 0 := by
      rcases Nat.eq_zero_or_pos m with h0 | h0
      · exact h0
      · obtain ⟨b, off, h, _⟩ := hr.2.2.2.2 h0
        cases h
    subst hm0
    have hy : ys = [] := List.eq_nil_of_length_eq_zero hr.1
    subst hy
    exact ⟨A, c, w, run_app_nil w base _ ty _ i0 1 Try.underlying24 hi _ n (vals zs) hown.1 d, by simpa using hown, World.grownBy.refl w _, .inl rfl⟩
  · have hcells : ∀ j u, (vals ys)[j]? = some u → w.cell? (ad.add j) = some u := by
      intro j u hu
      rcases Nat.eq_zero_or_pos m with h0 | h0
      · subst h0
        have hy : ys = [] := List.eq_nil_of_length_eq_zero hr.1
        subst hy
        simp [vals] at hu
      · obtain ⟨b, off, h, _, hc⟩ := hr.2.2.2.2 h0
        simp only [Option.some.injEq] at h
        subst h
        rw [vals, List.getElem?_map] at hu
        obtain ⟨z, hy, rfl⟩ := Option.map_eq_some_iff.1 hu
        rw [Addr.add_lit]
        exact hc j z hy
    obtain ⟨v', w', hrun, h2, h3, _, h5⟩ := run_append_own_at (P := Try.prog) w base 24 ty 2 i0 (.int .i64 0) 1 8 Try.underlying24 hi hz0 hz1 hz2 rfl (by decide) _ n (vals zs) hown.1 ad m d (vals ys) (by simp [vals, hr.1]) hcells (by intro u hu; simp [vals] at hu; obtain ⟨z, _, rfl⟩ := hu; rfl) (by unfold maxLen; omega) (by omega) hbase
    obtain ⟨A', c', rfl⟩ := own_slice h2
    refine ⟨A', c', w', hrun, ⟨by simpa [vals] using h2, hwf⟩, h3, ?_⟩
    rcases h5 with e | e
    · exact .inl e
    · exact .inr ⟨_, e, Nat.le_refl _⟩
theorem app_ints {ops : Array Oper} {rest : List Oper} {o : Oper} {a : Act} {Q : Exit → Act → World → Prop} (w : World) (hgd : o.guard = none) (s x : Operand)
    (ho : o.op = .call { callee := .builtin .append, args := #[s, x], argTypes := #[24, 24] }) (base : Nat)
    (A : Option Addr) (n c : Nat) (zs : List Int) (hs : a.eval s = .slice A n c) (hown : OwnI w base A n c zs) (B : Option Addr) (m d d' : Nat) (ys : List Int) (hx : a.eval x = .slice B m d) (hr : Ints .i64 w B m d' ys)
    (hn : n ≤ 1048576) (hm : m ≤ 1048576) (hbase : base ≤ w.heap.size)
    (h : ∀ A' c' w1, OwnI w1 base A' (n + m) c' (zs ++ ys) → w.grownBy w1 (Value.slice A n c).ownBlock → NewBlk w (.slice A n c) (.slice A' (n + m) c') → wpList Try.prog ops Q rest (a.put o.dst (.slice A' (n + m) c')) w1) :
    wpList Try.prog ops Q (o :: rest) a w := by
  refine wpList_plain hgd fun _ hK => ?_
  obtain ⟨A', c', w', hrun, h2, h3, h4⟩ := run_app_ints w o.type base A n c zs hown B m d d' ys hr hn hm hbase
  unfold Oper.wp execOp
  simp only [ho, resolve, invoke, builtin, Sem.run_bind, Sem.run_pure, Result.andThen_ok, List.map_toArray, List.map_cons, List.map_nil, hs, hx, hrun]
  exact hK _ _ (h A' c' w' h2 h3 h4)
/-- A part of a slice that is read. -/
theorem Ints.front {w : World} {A : Option Addr} {n c k : Nat} {zs : List Int} (h : Ints .i64 w A n c zs) (hk : k ≤ n) : Ints .i64 w A k c (zs.take k) := by
  obtain ⟨h1, h2, h3, h4, h5⟩ := h
  refine ⟨by simp; omega, by omega, h3, fun z hz => h4 z (List.mem_of_mem_take hz), fun h0 => ?_⟩
  obtain ⟨b, off, e, hb, hc⟩ := h5 (by omega)
  refine ⟨b, off, e, hb, fun j z hz => hc j z ?_⟩
  have hj := (List.getElem?_eq_some_iff.1 hz).1
  simp at hj
  rwa [List.getElem?_take_of_lt (by omega)] at hz
theorem Ints.back {w : World} {b off n c k : Nat} {zs : List Int} (h : Ints .i64 w (some ⟨b, off, none⟩) n c zs) (hk : k ≤ n) (A' : Option Addr) (hA : k < n → A' = some ⟨b, off + k, none⟩) : Ints .i64 w A' (n - k) (c - k) (zs.drop k) := by
  obtain ⟨h1, h2, h3, h4, h5⟩ := h
  refine ⟨by simp; omega, by omega, by omega, fun z hz => h4 z (List.mem_of_mem_drop hz), fun h0 => ?_⟩
  obtain ⟨b', off', e, hb, hc⟩ := h5 (by omega)
  simp only [Option.some.injEq, Addr.mk.injEq, and_true] at e
  obtain ⟨rfl, rfl⟩ := e
  refine ⟨b, off + k, hA (by omega), hb, fun j z hz => ?_⟩
  rw [List.getElem?_drop] at hz
  rw [Nat.add_assoc]
  exact hc _ z hz
theorem Ints.backE {w : World} {b off n c k : Nat} {zs : List Int} (h : Ints .i64 w (some ⟨b, off, none⟩) n c zs) (hk : k ≤ n) (m : Nat) (hm : m = n - k) (A' : Option Addr) (hA : k < n → A' = some ⟨b, off + k, none⟩) : Ints .i64 w A' m (c - k) (zs.drop k) := by
  subst hm
  exact h.back hk A' hA
theorem OwnI.recount {w : World} {base : Nat} {A : Option Addr} {n c m : Nat} {zs : List Int} (h : OwnI w base A n c zs) (e : n = m) : OwnI w base A m c zs := e ▸ h
end Go.Proofs.Ytiodbjfchfmlcaa
