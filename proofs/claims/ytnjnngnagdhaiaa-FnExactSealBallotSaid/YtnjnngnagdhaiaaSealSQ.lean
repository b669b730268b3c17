/- A ballot while it is being made, and a proof that is not yet in it. -/
import Derived.Test.YtnjnngnagdhaiaaSpecMake
namespace Go.Proofs.Ytnjnngnagdhaiaa
set_option linter.unusedVariables false
open Go.RowKit
section
variable {lo : Nat} {w : World} {A : Option Addr} {n c : Nat} {ss : List Int} {B : Option Addr} {m d : Nat} {hv : List Value} {ps : List Bp}
/-- A proof more: its lists were there before the seals' last block. -/
theorem PB.proof2 (h : PB lo w A n c ss B m d hv ps) {w2 : World} {L : Nat} {ms cs as_ : List Int} {A1 A2 A3 : Option Addr} {c1 c2 c3 : Nat} (hl : lo ≤ L) (hV : ∀ v ∈ hv, ∀ g, v.ownBlock = some g → g < L)
    (o1 : OwnI w L A1 ms.length c1 ms) (o2 : OwnI w L A2 cs.length c2 cs) (o3 : OwnI w L A3 as_.length c3 as_)
    (ap : Apart (.slice A1 ms.length c1) (.slice A2 cs.length c2) ∧ Apart (.slice A1 ms.length c1) (.slice A3 as_.length c3) ∧ Apart (.slice A2 cs.length c2) (.slice A3 as_.length c3))
    (ax : Apart (.slice A n c) (.slice A1 ms.length c1) ∧ Apart (.slice A n c) (.slice A2 cs.length c2) ∧ Apart (.slice A n c) (.slice A3 as_.length c3))
    {B' : Option Addr} {d' : Nat} (hd' : w2.ownsRow lo 31 3 (.slice B' (m + 1) d') (m + 1) (hv ++ [.slice A1 ms.length c1, .slice A2 cs.length c2, .slice A3 as_.length c3])) (hg : w.grownBy w2 (Value.slice B m d).ownBlock) :
    PB lo w2 A n c ss B' (m + 1) d' (hv ++ [.slice A1 ms.length c1, .slice A2 cs.length c2, .slice A3 as_.length c3]) (ps ++ [⟨ms, cs, as_⟩]) := by
  have keep : ∀ {B0 : Option Addr} {m0 d0 b0 : Nat} {us : List Int}, OwnI w b0 B0 m0 d0 us → OwnI w2 b0 B0 m0 d0 us := fun hu => hu.kept hg (own_ne hu.1 h.hd (by decide))
  refine ⟨keep h.own, hd', by simp [h.len], fun j zs e => ?_, ?_⟩
  · rw [fl3_snoc] at e
    have hfl : (fl3 ps).length = hv.length := by rw [fl3_len, h.len, h.hlen]
    by_cases hj : j < (fl3 ps).length
    · rw [List.getElem?_append_left hj] at e
      obtain ⟨A', c', e1, o⟩ := h.row j zs e
      exact ⟨A', c', by rw [List.getElem?_append_left (by omega)]; exact e1, keep o⟩
    · rw [List.getElem?_append_right (by omega)] at e
      obtain ⟨i, hi⟩ : ∃ i, j - (fl3 ps).length = i := ⟨_, rfl⟩
      rw [hi] at e
      rw [List.getElem?_append_right (by omega), ← hfl, hi]
      match i, e with
      | 0, e => simp at e; subst e; exact ⟨A1, c1, rfl, (keep o1).mono hl⟩
      | 1, e => simp at e; subst e; exact ⟨A2, c2, rfl, (keep o2).mono hl⟩
      | 2, e => simp at e; subst e; exact ⟨A3, c3, rfl, (keep o3).mono hl⟩
      | i + 3, e => simp at e
  · have hp := List.pairwise_cons.1 h.apart
    have n1 := apart_new (base := 0) hV o1
    have n2 := apart_new (base := 0) hV o2
    have n3 := apart_new (base := 0) hV o3
    rw [← List.cons_append]
    refine List.pairwise_append.2 ⟨h.apart, ?_, fun u hu v hv' => ?_⟩
    · simp only [List.pairwise_cons, List.mem_cons, List.not_mem_nil, or_false, false_imp_iff, implies_true, List.Pairwise.nil, and_true]
      refine ⟨fun v hv' => ?_, fun v hv' => by subst hv'; exact ap.2.2⟩
      rcases hv' with rfl | rfl
      · exact ap.1
      · exact ap.2.1
    · simp only [List.mem_cons, List.not_mem_nil, or_false] at hv'
      rcases List.mem_cons.1 hu with rfl | hu
      · rcases hv' with rfl | rfl | rfl
        · exact ax.1
        · exact ax.2.1
        · exact ax.2.2
      · rcases hv' with rfl | rfl | rfl
        · exact n1 u hu
        · exact n2 u hu
        · exact n3 u hu
end
/-- The variable, its lists, the proof's block and its lists. -/
structure SQ (lo L r g : Nat) (w0 w : World) (u0 k : Value) (A : Option Addr) (n c : Nat) (ss : List Int) (B : Option Addr) (m d : Nat) (hv : List Value) (ps : List Bp) (ms cs as_ : List Int) (A1 : Option Addr) (c1 : Nat) (A2 : Option Addr) (c2 : Nat) (A3 : Option Addr) (c3 : Nat) : Prop where
  bo : BO w g u0 (.slice B m d) k
  pb : PB lo w A n c ss B m d hv ps
  cr : Cs w r [.slice A1 ms.length c1, .slice A2 cs.length c2, .slice A3 as_.length c3]
  o1 : OwnI w L A1 ms.length c1 ms
  o2 : OwnI w L A2 cs.length c2 cs
  o3 : OwnI w L A3 as_.length c3 as_
  ap : Apart (.slice A1 ms.length c1) (.slice A2 cs.length c2) ∧ Apart (.slice A1 ms.length c1) (.slice A3 as_.length c3) ∧ Apart (.slice A2 cs.length c2) (.slice A3 as_.length c3)
  ax : Apart (.slice A n c) (.slice A1 ms.length c1) ∧ Apart (.slice A n c) (.slice A2 cs.length c2) ∧ Apart (.slice A n c) (.slice A3 as_.length c3)
  old : ∀ v ∈ hv, ∀ q, v.ownBlock = some q → q < L
  bel : Below w0.heap.size w0 w
section
variable {lo L r g : Nat} {w0 w : World} {u0 k : Value} {A : Option Addr} {n c : Nat} {ss : List Int} {B : Option Addr} {m d : Nat} {hv : List Value} {ps : List Bp} {ms cs as_ : List Int} {A1 : Option Addr} {c1 : Nat} {A2 : Option Addr} {c2 : Nat} {A3 : Option Addr} {c3 : Nat}
theorem SQ.below (h : SQ lo L r g w0 w u0 k A n c ss B m d hv ps ms cs as_ A1 c1 A2 c2 A3 c3) {w' : World} (b : Below w.heap.size w w') : SQ lo L r g w0 w' u0 k A n c ss B m d hv ps ms cs as_ A1 c1 A2 c2 A3 c3 :=
  ⟨h.bo.below b, h.pb.below b, h.cr.below b, h.o1.below b, h.o2.below b, h.o3.below b, h.ap, h.ax, h.old, bel_trans h.bel b⟩
theorem SQ.drew (h : SQ lo L r g w0 w u0 k A n c ss B m d hv ps ms cs as_ A1 c1 A2 c2 A3 c3) : SQ lo L r g w0 w.drew u0 k A n c ss B m d hv ps ms cs as_ A1 c1 A2 c2 A3 c3 :=
  ⟨h.bo.drew, h.pb.drew, h.cr.drew, h.o1.drew, h.o2.drew, h.o3.drew, h.ap, h.ax, h.old, ⟨h.bel.os, h.bel.tape, h.bel.output, h.bel.size, h.bel.block⟩⟩
/-- A seal more. -/
theorem SQ.seal (h : SQ lo L r g w0 w u0 k A n c ss B m d hv ps ms cs as_ A1 c1 A2 c2 A3 c3) (hA : ∀ q, (Value.slice A n c).ownBlock = some q → q < r) (h0 : w0.heap.size ≤ lo) {w1 : World} {A' : Option Addr} {n' c' : Nat} {ss' : List Int}
    (o : OwnI w1 lo A' n' c' ss') (hg : w.grownBy w1 (Value.slice A n c).ownBlock) (hn : NewBlk w (.slice A n c) (.slice A' n' c')) : SQ lo L r g w0 w1 u0 k A' n' c' ss' B m d hv ps ms cs as_ A1 c1 A2 c2 A3 c3 :=
  have st : ∀ {A1 : Option Addr} {m1 c1 : Nat} {zs : List Int}, OwnI w L A1 m1 c1 zs → Apart (.slice A n c) (.slice A1 m1 c1) → Apart (.slice A' n' c') (.slice A1 m1 c1) := fun o1 a => apart_step a hn fun g hg => (o1.block g hg).2
  ⟨h.bo.keepS h.pb.own hg, h.pb.seal o hg hn, h.cr.kept hg (fun e => absurd (hA r e.symm) (Nat.lt_irrefl _)), h.o1.kept hg h.ax.1.symm, h.o2.kept hg h.ax.2.1.symm, h.o3.kept hg h.ax.2.2.symm, h.ap,
    ⟨st h.o1 h.ax.1, st h.o2 h.ax.2.1, st h.o3 h.ax.2.2⟩, h.old, h.bel.grown hg h.bel.size fun q hq => Nat.le_trans h0 (h.pb.own.block q hq).1⟩
/-- The proof is laid in. -/
theorem SQ.proof (h : SQ lo L r g w0 w u0 k A n c ss B m d hv ps ms cs as_ A1 c1 A2 c2 A3 c3) (hl : lo ≤ L) (h0 : w0.heap.size ≤ lo) {w2 : World} {B' : Option Addr} {d' : Nat}
    (hd' : w2.ownsRow lo 31 3 (.slice B' (m + 1) d') (m + 1) (hv ++ [.slice A1 ms.length c1, .slice A2 cs.length c2, .slice A3 as_.length c3])) (hg : w.grownBy w2 (Value.slice B m d).ownBlock) :
    PB lo w2 A n c ss B' (m + 1) d' (hv ++ [.slice A1 ms.length c1, .slice A2 cs.length c2, .slice A3 as_.length c3]) (ps ++ [⟨ms, cs, as_⟩]) ∧ BO w2 g u0 (.slice B m d) k ∧ Below w0.heap.size w0 w2 :=
  ⟨h.pb.proof2 hl h.old h.o1 h.o2 h.o3 h.ap h.ax hd' hg, h.bo.keepP h.pb.hd hg, h.bel.grown hg h.bel.size fun q hq => Nat.le_trans h0 (h.pb.hd.lt q hq).1⟩
/-- What the region reads. -/
theorem SQ.reads (h : SQ lo L r g w0 w u0 k A n c ss B m d hv ps ms cs as_ A1 c1 A2 c2 A3 c3) : w.cell? ⟨g, 0, none⟩ = some u0 ∧ w.cell? ⟨g, 1, none⟩ = some (.slice B m d) ∧ w.cell? ⟨r, 0, none⟩ = some (.slice A1 ms.length c1) ∧ w.cell? ⟨r, 1, none⟩ = some (.slice A2 cs.length c2) ∧ w.cell? ⟨r, 2, none⟩ = some (.slice A3 as_.length c3) :=
  ⟨h.bo.cells.1, h.bo.cells.2.1, h.cr.cell 0 rfl, h.cr.cell 1 rfl, h.cr.cell 2 rfl⟩
end
end Go.Proofs.Ytnjnngnagdhaiaa
