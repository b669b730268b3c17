/- Slices of slices of int64, read or made; what is changed in a range of blocks only; the laws' helpers on them. -/
import Derived.Test.YteehbnanjgmliaaDoorMat
import Derived.Test.YteehbnanjgmliaaDoorInts
namespace Go.Proofs.YteehbnanjgmliaaDoor
set_option linter.unusedVariables false
open Go.RowKit
/-- A slice value reads as rows of integers. -/
def Rws (w : World) (A : Option Addr) (n c : Nat) (zss : List (List Int)) : Prop :=
  zss.length = n ∧ n ≤ c ∧ c ≤ maxLen ∧
  (0 < n → ∃ b off, A = some ⟨b, off, none⟩ ∧ b < w.heap.size ∧ ∀ (j : Nat) (zs : List Int), zss[j]? = some zs → ∃ A' c', w.cell? ⟨b, off + j, none⟩ = some (.slice A' zs.length c') ∧ Ints .i64 w A' zs.length c' zs)
theorem Rws.at {w : World} {A : Option Addr} {n c j : Nat} {zss : List (List Int)} (h : Rws w A n c zss) (hj : j < n) :
    ∃ b off A' m c' zs, A = some ⟨b, off, none⟩ ∧ b < w.heap.size ∧ w.cell? ⟨b, off + j, none⟩ = some (.slice A' m c') ∧ Ints .i64 w A' m c' zs ∧ Hid (zss[j]? = some zs) := by
  obtain ⟨h1, h2, h3, h5⟩ := h
  obtain ⟨b, off, hA, hb, hc⟩ := h5 (by omega)
  obtain ⟨A', c', h6, h7⟩ := hc j _ (List.getElem?_eq_getElem (by omega))
  exact ⟨b, off, A', _, c', _, hA, hb, h6, h7, List.getElem?_eq_getElem (by omega)⟩
theorem Rws.short {w : World} {A : Option Addr} {n c : Nat} {zss : List (List Int)} (h : Rws w A n c zss) : n ≤ 9223372036854775807 := by
  have := h.2.1; have := h.2.2.1; unfold maxLen at *; omega
theorem Rws.below {w w' : World} {A : Option Addr} {n c : Nat} {zss : List (List Int)} (h : Rws w A n c zss) (hb : Below w.heap.size w w') : Rws w' A n c zss := by
  obtain ⟨h1, h2, h3, h5⟩ := h
  refine ⟨h1, h2, h3, fun hn => ?_⟩
  obtain ⟨b, off, hA, hbk, hc⟩ := h5 hn
  refine ⟨b, off, hA, Nat.lt_of_lt_of_le hbk hb.size, fun j zs hz => ?_⟩
  obtain ⟨A', c', h6, h7⟩ := hc j zs hz
  exact ⟨A', c', by rw [hb.cell (p := ⟨b, off + j, none⟩) hbk]; exact h6, h7.below hb⟩
theorem rws_nil (w : World) : Rws w none 0 0 [] := ⟨rfl, Nat.le_refl _, by unfold maxLen; omega, fun h => absurd h (by omega)⟩
theorem rws_opened {w : World} {base : Nat} {a : Addr} {len cap : Nat} {A : Nat → Option Addr} {L C : Nat → Nat} {Z : Nat → List Int} (hl : len ≤ cap) (hm : cap ≤ maxLen)
    (hr : ∀ r, r < cap → w.cell? (a.add r) = some (.slice (A r) (L r) (C r)) ∧ L r ≤ C r ∧ C r ≤ maxLen ∧ (Z r).length = C r ∧ (∀ n ∈ Z r, (Lit.int .i64 n).wf = true) ∧ (A r = none → C r = 0) ∧
        ∀ a', A r = some a' → base ≤ a'.block ∧ ∀ c, c < C r → w.cell? (a'.add c) = some (.int .i64 ((Z r).getD c 0))) :
    Rws w (some a) len cap ((List.range len).map fun r => (Z r).take (L r)) := by
  refine ⟨by simp, hl, hm, fun hn => ?_⟩
  obtain ⟨b, off, spot⟩ := a
  have h0 := (hr 0 (by omega)).1
  have hspot : spot = none := by simpa [Addr.add] using World.cell?_spot h0
  subst hspot
  refine ⟨b, off, rfl, ?_, fun j zs hz => ?_⟩
  · have := World.block_lt_of_cell? w _ h0
    simpa [Addr.add] using this
  · have hj : j < len := by have := (List.getElem?_eq_some_iff.1 hz).1; simpa using this
    have ez : zs = (Z j).take (L j) := by
      rw [List.getElem?_map, List.getElem?_range hj] at hz
      simpa using hz.symm
    obtain ⟨h1, h2, h3, h4, h5, h6, h7⟩ := hr j (by omega)
    have hzl : zs.length = L j := by rw [ez, List.length_take]; omega
    refine ⟨A j, C j, by rw [hzl, ← h1, Addr.add_lit], ?_⟩
    rw [hzl, ez]
    cases hA : A j with
    | none =>
      have hc := h6 hA
      have hL : L j = 0 := by omega
      have hZ : Z j = [] := List.eq_nil_of_length_eq_zero (by omega)
      rw [hL, hc, hZ]
      exact ints_nil _ _
    | some a' => exact ints_opened h2 h3 h4 (fun i hi => (h7 a' hA).2 i (by omega)) h5
theorem OwnM.rws {w : World} {base : Nat} {A : Option Addr} {n c : Nat} {vs : List Value} {zss : List (List Int)} (h : OwnM w base A n c vs zss) : Rws w A n c zss := by
  have hl := h.len
  rcases h.outer.2 with ⟨hv, h0⟩ | ⟨g, cap, cur, hv, hb, hg, hnc, hcm, hcs, ht⟩
  · simp only [Value.slice.injEq] at hv
    obtain ⟨rfl, rfl, rfl⟩ := hv
    exact ⟨hl, Nat.le_refl _, by unfold maxLen; omega, fun hh => absurd hh (by omega)⟩
  · simp only [Value.slice.injEq, true_and] at hv
    obtain ⟨rfl, rfl⟩ := hv
    refine ⟨hl, hnc, hcm, fun hn => ⟨g, 0, rfl, (Array.getElem?_eq_some_iff.1 hg).1, fun j zs hz => ?_⟩⟩
    have hjn : j < n := by have := (List.getElem?_eq_some_iff.1 hz).1; omega
    obtain ⟨A', c', hv', ho⟩ := h.row j zs hz
    have hc := h.outer.cells (g := g) rfl j _ hv'
    rw [Addr.add_lit] at hc
    exact ⟨A', c', hc, ho.ints⟩

/-! ### what is changed in a range of blocks only -/
structure Only (lo hi : Nat) (w w' : World) : Prop where
  os : w'.os = w.os
  tape : w'.tape = w.tape
  output : w'.output = w.output
  size : w.heap.size ≤ w'.heap.size
  block : ∀ k, k < w.heap.size → (k < lo ∨ hi ≤ k) → w'.heap[k]? = w.heap[k]?
/-- A value's own block lies in a range. -/
def InB (lo hi : Nat) (v : Value) : Prop := ∀ g, v.ownBlock = some g → lo ≤ g ∧ g < hi
/-- Two ranges have nothing in common. -/
def Off (lo hi lo' hi' : Nat) : Prop := hi ≤ lo' ∨ hi' ≤ lo
section
variable {w w' w2 : World} {lo hi lo' hi' : Nat}
theorem Only.of_below (h : Below w.heap.size w w') (lo hi : Nat) : Only lo hi w w' := ⟨h.os, h.tape, h.output, h.size, fun k hk _ => h.block k hk⟩
theorem Only.of_grown {row : Option Nat} (h : w.grownBy w' row) (hr : ∀ g, row = some g → lo ≤ g ∧ g < hi) : Only lo hi w w' :=
  ⟨h.os, h.tape, h.output, h.size, fun k hk hd => h.block k hk (fun e => by have := hr k e.symm; omega)⟩
theorem Only.trans (h : Only lo hi w w') (k : Only lo hi w' w2) : Only lo hi w w2 :=
  ⟨k.os.trans h.os, k.tape.trans h.tape, k.output.trans h.output, Nat.le_trans h.size k.size, fun i hi hd => (k.block i (Nat.lt_of_lt_of_le hi h.size) hd).trans (h.block i hi hd)⟩
theorem Only.refl (lo hi : Nat) (w : World) : Only lo hi w w := ⟨rfl, rfl, rfl, Nat.le_refl _, fun _ _ _ => rfl⟩
theorem bel_only {W : World} (h : Below W.heap.size W w) (o : Only lo hi w w') (hl : W.heap.size ≤ lo) : Below W.heap.size W w' :=
  ⟨o.os.trans h.os, o.tape.trans h.tape, o.output.trans h.output, Nat.le_trans h.size o.size, fun k hk => (o.block k (Nat.lt_of_lt_of_le hk h.size) (.inl (by omega))).trans (h.block k hk)⟩
theorem own_only {base e size n : Nat} {v : Value} {xs : List Value} (h : w.ownsRow base e size v n xs) (hb : ∀ g, v.ownBlock = some g → w'.heap[g]? = w.heap[g]?) : w'.ownsRow base e size v n xs := by
  refine ⟨h.1, ?_⟩
  rcases h.2 with hn | ⟨g, cap, cur, rfl, hb', hgg, rest⟩
  · exact .inl hn
  · refine .inr ⟨g, cap, cur, rfl, hb', ?_, rest⟩
    rw [hb g rfl]
    exact hgg
theorem OwnI.only {base : Nat} {A : Option Addr} {n c : Nat} {zs : List Int} (h : OwnI w base A n c zs) (o : Only lo hi w w') (hd : ∀ g, (Value.slice A n c).ownBlock = some g → g < lo ∨ hi ≤ g) : OwnI w' base A n c zs :=
  ⟨own_only h.1 fun g hg => o.block g (h.block g hg).2 (hd g hg), h.2⟩
theorem OwnM.only {base : Nat} {A : Option Addr} {n c : Nat} {vs : List Value} {zss : List (List Int)} (h : OwnM w base A n c vs zss) (o : Only lo hi w w')
    (hd : ∀ g, (Value.slice A n c).ownBlock = some g → g < lo ∨ hi ≤ g) (hv : ∀ v ∈ vs, ∀ g, v.ownBlock = some g → g < lo ∨ hi ≤ g) : OwnM w' base A n c vs zss := by
  refine ⟨own_only h.outer fun g hg => o.block g (h.block g hg).2 (hd g hg), h.len, fun j zs hz => ?_, h.apart⟩
  obtain ⟨A', c', hv', ho⟩ := h.row j zs hz
  exact ⟨A', c', hv', ho.only o (hv _ (List.mem_of_getElem? hv'))⟩
end
/-- A slice, rows of slices, made in a range of blocks. -/
structure IR (lo hi : Nat) (w : World) (A : Option Addr) (n c : Nat) (zs : List Int) : Prop where
  own : OwnI w lo A n c zs
  top : ∀ g, (Value.slice A n c).ownBlock = some g → g < hi
structure MR (lo hi : Nat) (w : World) (A : Option Addr) (n c : Nat) (vs : List Value) (zss : List (List Int)) : Prop where
  own : OwnM w lo A n c vs zss
  top : ∀ g, (Value.slice A n c).ownBlock = some g → g < hi
  rows : ∀ v ∈ vs, ∀ g, v.ownBlock = some g → g < hi
section
variable {w w' : World} {lo hi lo' hi' : Nat} {A : Option Addr} {n c : Nat} {zs : List Int} {vs : List Value} {zss : List (List Int)}
theorem IR.mk' (h : OwnI w lo A n c zs) : IR lo w.heap.size w A n c zs := ⟨h, fun g hg => (h.block g hg).2⟩
theorem IR.own_only (h : IR lo hi w A n c zs) (hg : w.grownBy w' (Value.slice A n c).ownBlock) : Only lo hi w w' := Only.of_grown hg (fun x hx => ⟨(h.own.block x hx).1, h.top x hx⟩)
theorem MR.mk' (h : OwnM w lo A n c vs zss) : MR lo w.heap.size w A n c vs zss := ⟨h, fun g hg => (h.block g hg).2, fun v hv g hg => (h.blocks v hv g hg).2⟩
theorem IR.below (h : IR lo hi w A n c zs) (hb : Below w.heap.size w w') : IR lo hi w' A n c zs := ⟨h.own.below hb, h.top⟩
theorem MR.below (h : MR lo hi w A n c vs zss) (hb : Below w.heap.size w w') : MR lo hi w' A n c vs zss := ⟨h.own.below hb, h.top, h.rows⟩
theorem IR.only (h : IR lo hi w A n c zs) (o : Only lo' hi' w w') (hd : Off lo hi lo' hi') : IR lo hi w' A n c zs :=
  ⟨h.own.only o (fun g hg => by have := h.own.block g hg; have := h.top g hg; unfold Off at hd; omega), h.top⟩
theorem MR.only (h : MR lo hi w A n c vs zss) (o : Only lo' hi' w w') (hd : Off lo hi lo' hi') : MR lo hi w' A n c vs zss :=
  ⟨h.own.only o (fun g hg => by have := h.own.block g hg; have := h.top g hg; unfold Off at hd; omega) (fun v hv g hg => by have := h.own.blocks v hv g hg; have := h.rows v hv g hg; unfold Off at hd; omega), h.top, h.rows⟩
end
/-! ### a row written into the outer slice; a row's content changed -/
theorem pair_set {vs : List Value} {j : Nat} {v : Value} (h : vs.Pairwise Apart) (hv : ∀ u ∈ vs, Apart u v) : (vs.set j v).Pairwise Apart := by
  rw [List.pairwise_iff_getElem] at h ⊢
  intro a b ha hb hab
  simp only [List.length_set] at ha hb
  rw [List.getElem_set, List.getElem_set]
  split
  · split
    · omega
    · exact (hv _ (List.getElem_mem _)).symm
  · split
    · exact hv _ (List.getElem_mem _)
    · exact h a b ha hb hab
theorem OwnM.set {w : World} {base g n c : Nat} {vs : List Value} {zss : List (List Int)} (h : OwnM w base (some ⟨g, 0, none⟩) n c vs zss) {j : Nat} (hj : j < n) {B : Option Addr} {m d : Nat} {zs : List Int} (hrow : OwnI w base B m d zs) (hap : ∀ v ∈ vs, Apart v (.slice B m d)) :
    OwnM (w.setCell ⟨g, j, none⟩ (.slice B m d)) base (some ⟨g, 0, none⟩) n c (vs.set j (.slice B m d)) (zss.set j zs) ∧ w.grownBy (w.setCell ⟨g, j, none⟩ (.slice B m d)) (some g) := by
  obtain ⟨h1, h2⟩ := h.outer.stored j (.slice B m d)
  have hvl := h.vlen
  have hzl := h.len
  have hm : zs.length = m := hrow.len
  have keep : ∀ {B' : Option Addr} {m' d' : Nat} {us : List Int}, OwnI w base B' m' d' us → OwnI (w.setCell ⟨g, j, none⟩ (.slice B m d)) base B' m' d' us := fun hu =>
    hu.kept h2 (own_ne hu.1 h.outer (by decide))
  refine ⟨⟨h1, by simp [hzl], fun i us hu => ?_, pair_set h.apart hap⟩, h2⟩
  by_cases e : j = i
  · subst e
    rw [List.getElem?_set_self (by omega)] at hu
    injection hu with hu
    subst hu
    exact ⟨B, d, by rw [List.getElem?_set_self (by omega), hm], by rw [hm]; exact keep hrow⟩
  · rw [List.getElem?_set_ne e] at hu
    obtain ⟨A2, c2, hv, hi2⟩ := h.row i us hu
    exact ⟨A2, c2, by rw [List.getElem?_set_ne e]; exact hv, keep hi2⟩
theorem OwnM.turn {w w' : World} {base n c : Nat} {A : Option Addr} {vs : List Value} {zss : List (List Int)} (h : OwnM w base A n c vs zss) {j : Nat} {B : Option Addr} {m d : Nat} {zs zs' : List Int}
    (hv : vs[j]? = some (.slice B m d)) (hrow : OwnI w' base B m d zs') (h0 : OwnI w base B m d zs) (hg : w.grownBy w' (Value.slice B m d).ownBlock) : OwnM w' base A n c vs (zss.set j zs') := by
  have hvl := h.vlen
  have hzl := h.len
  have hj : j < n := by have := (List.getElem?_eq_some_iff.1 hv).1; omega
  have hm : zs'.length = m := hrow.len
  refine ⟨h.outer.kept hg (own_ne h.outer h0.1 (by decide)), by simp [hzl], fun i us hu => ?_, h.apart⟩
  by_cases e : j = i
  · subst e
    rw [List.getElem?_set_self (by omega)] at hu
    injection hu with hu
    subst hu
    exact ⟨B, d, by rw [hv, hm], by rw [hm]; exact hrow⟩
  · rw [List.getElem?_set_ne e] at hu
    obtain ⟨A2, c2, hv2, hi2⟩ := h.row i us hu
    refine ⟨A2, c2, hv2, hi2.kept hg ?_⟩
    have hp := List.pairwise_iff_getElem.1 h.apart
    obtain ⟨l1, e1⟩ := List.getElem?_eq_some_iff.1 hv
    obtain ⟨l2, e2⟩ := List.getElem?_eq_some_iff.1 hv2
    rcases Nat.lt_or_gt_of_ne e with hlt | hlt
    · have := hp j i l1 l2 hlt
      rw [e1, e2] at this
      exact this.symm
    · have := hp i j l2 l1 hlt
      rw [e1, e2] at this
      exact this
end Go.Proofs.YteehbnanjgmliaaDoor
