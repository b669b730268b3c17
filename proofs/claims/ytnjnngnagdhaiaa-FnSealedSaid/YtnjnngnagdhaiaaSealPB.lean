/- A ballot while it is being made: its seals, the block of its proofs and their lists, all apart. -/
import Derived.Test.YtnjnngnagdhaiaaBalHeld2
namespace Go.Proofs.Ytnjnngnagdhaiaa
set_option linter.unusedVariables false
set_option maxRecDepth 100000
open Go.RowKit
def fl3 (ps : List Bp) : List (List Int) := ps.flatMap fun p => [p.ms, p.cs, p.as_]
theorem fl3_len (ps : List Bp) : (fl3 ps).length = ps.length * 3 := by
  unfold fl3
  induction ps with
  | nil => rfl
  | cons p t ih => simp only [List.flatMap_cons, List.length_append, ih, List.length_cons, List.length_nil]; omega
theorem fl3_snoc (ps : List Bp) (p : Bp) : fl3 (ps ++ [p]) = fl3 ps ++ [p.ms, p.cs, p.as_] := by simp [fl3]
theorem fl3_at {ps : List Bp} : ∀ {j : Nat} {p : Bp}, ps[j]? = some p → (fl3 ps)[j * 3]? = some p.ms ∧ (fl3 ps)[j * 3 + 1]? = some p.cs ∧ (fl3 ps)[j * 3 + 2]? = some p.as_ := by
  induction ps with
  | nil => intro j p h; simp at h
  | cons q t ih =>
    intro j p h
    have e : fl3 (q :: t) = q.ms :: q.cs :: q.as_ :: fl3 t := rfl
    rw [e]
    cases j with
    | zero => simp at h; subst h; exact ⟨rfl, rfl, rfl⟩
    | succ j =>
      simp at h
      obtain ⟨a, b, c⟩ := ih h
      rw [show (j + 1) * 3 = j * 3 + 1 + 1 + 1 by omega]
      simp only [List.getElem?_cons_succ]
      exact ⟨a, b, c⟩
structure PB (lo : Nat) (w : World) (A : Option Addr) (n c : Nat) (ss : List Int) (B : Option Addr) (m d : Nat) (hv : List Value) (ps : List Bp) : Prop where
  own : OwnI w lo A n c ss
  hd : w.ownsRow lo 31 3 (.slice B m d) m hv
  len : ps.length = m
  row : ∀ (j : Nat) (zs : List Int), (fl3 ps)[j]? = some zs → ∃ A' c', hv[j]? = some (Value.slice A' zs.length c') ∧ OwnI w lo A' zs.length c' zs
  apart : (Value.slice A n c :: hv).Pairwise Apart
section
variable {lo : Nat} {w : World} {A : Option Addr} {n c : Nat} {ss : List Int} {B : Option Addr} {m d : Nat} {hv : List Value} {ps : List Bp}
theorem PB.below (h : PB lo w A n c ss B m d hv ps) {w' : World} (b : Below w.heap.size w w') : PB lo w' A n c ss B m d hv ps :=
  ⟨h.own.below b, h.hd.kept (row := none) ⟨b.os, b.tape, b.output, b.size, fun k hk _ => b.block k hk⟩ (by cases (Value.slice B m d).ownBlock <;> simp), h.len, fun j zs e => by obtain ⟨A', c', e1, o⟩ := h.row j zs e; exact ⟨A', c', e1, o.below b⟩, h.apart⟩
theorem PB.hlen (h : PB lo w A n c ss B m d hv ps) : hv.length = m * 3 := h.hd.1
theorem PB.rows (h : PB lo w A n c ss B m d hv ps) : ∀ v ∈ hv, ∀ g, v.ownBlock = some g → lo ≤ g ∧ g < w.heap.size := by
  intro v hv' g hg
  obtain ⟨j, hj⟩ := List.mem_iff_getElem?.1 hv'
  have hl : j < (fl3 ps).length := by rw [fl3_len, h.len]; have := (List.getElem?_eq_some_iff.1 hj).1; have := h.hlen; omega
  obtain ⟨A', c', e, o⟩ := h.row j _ (List.getElem?_eq_getElem hl)
  rw [hj] at e
  injection e with e
  subst e
  exact o.block g hg
theorem PB.tops (h : PB lo w A n c ss B m d hv ps) : (∀ g, (Value.slice A n c).ownBlock = some g → g < w.heap.size) ∧ ∀ v ∈ hv, ∀ g, v.ownBlock = some g → g < w.heap.size :=
  ⟨fun g hg => (h.own.block g hg).2, fun v hv' g hg => (h.rows v hv' g hg).2⟩
/-- A seal more. -/
theorem PB.seal (h : PB lo w A n c ss B m d hv ps) {w1 : World} {A' : Option Addr} {n' c' : Nat} {ss' : List Int} (o : OwnI w1 lo A' n' c' ss') (hg : w.grownBy w1 (Value.slice A n c).ownBlock) (hn : NewBlk w (.slice A n c) (.slice A' n' c')) :
    PB lo w1 A' n' c' ss' B m d hv ps := by
  have hp := List.pairwise_cons.1 h.apart
  refine ⟨o, h.hd.kept hg (own_ne h.hd h.own.1 (by decide)), h.len, fun j zs e => ?_, List.pairwise_cons.2 ⟨fun u hu => apart_step (hp.1 u hu) hn (fun g hg => (h.rows u hu g hg).2), hp.2⟩⟩
  obtain ⟨A2, c2, e1, o1⟩ := h.row j zs e
  exact ⟨A2, c2, e1, o1.kept hg (hp.1 _ (List.mem_of_getElem? e1)).symm⟩
/-- A proof more. -/
theorem PB.proof (h : PB lo w A n c ss B m d hv ps) {w2 : World} {L : Nat} {p : Bp} {A1 A2 A3 : Option Addr} {c1 c2 c3 : Nat} (hl : lo ≤ L) (hA : ∀ g, (Value.slice A n c).ownBlock = some g → g < L) (hV : ∀ v ∈ hv, ∀ g, v.ownBlock = some g → g < L)
    (o1 : OwnI w L A1 p.ms.length c1 p.ms) (o2 : OwnI w L A2 p.cs.length c2 p.cs) (o3 : OwnI w L A3 p.as_.length c3 p.as_)
    (ap : Apart (.slice A1 p.ms.length c1) (.slice A2 p.cs.length c2) ∧ Apart (.slice A1 p.ms.length c1) (.slice A3 p.as_.length c3) ∧ Apart (.slice A2 p.cs.length c2) (.slice A3 p.as_.length c3))
    {B' : Option Addr} {d' : Nat} (hd' : w2.ownsRow lo 31 3 (.slice B' (m + 1) d') (m + 1) (hv ++ [.slice A1 p.ms.length c1, .slice A2 p.cs.length c2, .slice A3 p.as_.length c3])) (hg : w.grownBy w2 (Value.slice B m d).ownBlock) :
    PB lo w2 A n c ss B' (m + 1) d' (hv ++ [.slice A1 p.ms.length c1, .slice A2 p.cs.length c2, .slice A3 p.as_.length c3]) (ps ++ [p]) := by
  have keep : ∀ {B0 : Option Addr} {m0 d0 b0 : Nat} {us : List Int}, OwnI w b0 B0 m0 d0 us → OwnI w2 b0 B0 m0 d0 us := fun hu => hu.kept hg (own_ne hu.1 h.hd (by decide))
  refine ⟨keep h.own, hd', by simp [h.len], fun j zs e => ?_, ?_⟩
  · rw [fl3_snoc] at e
    have hfl : (fl3 ps).length = hv.length := by rw [fl3_len, h.len, h.hlen]
    by_cases hj : j < (fl3 ps).length
    · rw [List.getElem?_append_left hj] at e
      obtain ⟨A', c', e1, o⟩ := h.row j zs e
      exact ⟨A', c', by rw [List.getElem?_append_left (by omega)]; exact e1, keep o⟩
    · rw [List.getElem?_append_right (by omega)] at e
      obtain ⟨i, hi⟩ : ∃ i, j - (fl3 ps).length = i := ⟨_, rfl⟩
      rw [hi] at e
      rw [List.getElem?_append_right (by omega), ← hfl, hi]
      match i, e with
      | 0, e => simp at e; subst e; exact ⟨A1, c1, rfl, (keep o1).mono hl⟩
      | 1, e => simp at e; subst e; exact ⟨A2, c2, rfl, (keep o2).mono hl⟩
      | 2, e => simp at e; subst e; exact ⟨A3, c3, rfl, (keep o3).mono hl⟩
      | i + 3, e => simp at e
  · have hp := List.pairwise_cons.1 h.apart
    have old : ∀ v ∈ (Value.slice A n c :: hv), ∀ g, v.ownBlock = some g → g < L := fun v hv' g hg => by
      rcases List.mem_cons.1 hv' with rfl | hv'
      · exact hA g hg
      · exact hV v hv' g hg
    have n1 := apart_new (base := 0) old o1
    have n2 := apart_new (base := 0) old o2
    have n3 := apart_new (base := 0) old o3
    rw [← List.cons_append]
    refine List.pairwise_append.2 ⟨h.apart, ?_, fun u hu v hv' => ?_⟩
    · simp only [List.pairwise_cons, List.mem_cons, List.not_mem_nil, or_false, false_imp_iff, implies_true, List.Pairwise.nil, and_true]
      refine ⟨fun v hv' => ?_, fun v hv' => by subst hv'; exact ap.2.2⟩
      rcases hv' with rfl | rfl
      · exact ap.1
      · exact ap.2.1
    · simp only [List.mem_cons, List.not_mem_nil, or_false] at hv'
      rcases hv' with rfl | rfl | rfl
      · exact n1 u hu
      · exact n2 u hu
      · exact n3 u hu
theorem PB.ob (h : PB lo w A n c ss B m d hv ps) : OB lo w.heap.size w A n c B m (.slice A n c :: hv) (ss :: fl3 ps) := by
  have hn := h.own.len
  subst hn
  refine ⟨⟨by simp [fl3_len, h.len, h.hlen], fun j zs e => ?_, h.apart, fun v hv' g hg => ?_⟩, rfl, fun hm => ?_, by simp [fl3_len, h.len]; omega⟩
  · cases j with
    | zero => simp at e; subst e; exact ⟨A, c, rfl, h.own⟩
    | succ j => simp at e; exact h.row j zs e
  · rcases List.mem_cons.1 hv' with rfl | hv'
    · exact (h.own.block g hg).2
    · exact (h.rows v hv' g hg).2
  · rcases h.hd.2 with ⟨_, e0⟩ | ⟨g, cap, cur, hv', _⟩
    · omega
    · simp only [Value.slice.injEq, true_and] at hv'
      obtain ⟨rfl, rfl⟩ := hv'
      refine ⟨g, rfl, fun j A' n' c' e => ?_⟩
      rw [show 1 + j = j + 1 by omega, List.getElem?_cons_succ] at e
      have := h.hd.cells (g := g) rfl j _ e
      rwa [Addr.add_lit, Nat.zero_add] at this
theorem PB.bps (h : PB lo w A n c ss B m d hv ps) : Bps w B m d ps := by
  rcases h.hd.2 with ⟨e, e0⟩ | ⟨g, cap, cur, hv', hb, hg, hnc, hcm, _⟩
  · simp only [Value.slice.injEq] at e
    obtain ⟨rfl, rfl, rfl⟩ := e
    exact ⟨h.len, Nat.le_refl _, by unfold maxLen; omega, fun hn => absurd hn (by omega)⟩
  · simp only [Value.slice.injEq, true_and] at hv'
    obtain ⟨rfl, rfl⟩ := hv'
    refine ⟨h.len, hnc, hcm, fun hn => ⟨g, 0, rfl, (Array.getElem?_eq_some_iff.1 hg).1, fun j p hp => ?_⟩⟩
    obtain ⟨x1, x2, x3⟩ := fl3_at hp
    obtain ⟨A1, c1, e1, o1⟩ := h.row _ _ x1
    obtain ⟨A2, c2, e2, o2⟩ := h.row _ _ x2
    obtain ⟨A3, c3, e3, o3⟩ := h.row _ _ x3
    have k1 := h.hd.cells (g := g) rfl _ _ e1
    have k2 := h.hd.cells (g := g) rfl _ _ e2
    have k3 := h.hd.cells (g := g) rfl _ _ e3
    rw [Addr.add_lit, Nat.zero_add] at k1 k2 k3
    rw [Nat.zero_add]
    exact ⟨A1, _, c1, A2, _, c2, A3, _, c3, k1, k2, k3, o1.ints, o2.ints, o3.ints⟩
end
end Go.Proofs.Ytnjnngnagdhaiaa
