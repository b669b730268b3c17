/- A drawn strategy: an argument and two rows of numbers. -/
import Derived.Test.YteejfjgofpolkaaGrfO
import Derived.Test.YteejfjgofpolkaaStrat4
import Derived.Test.YteejfjgofpolkaaDrawF
import Derived.Test.YteejfjgofpolkaaLst
import Derived.Deep.Cut
import Derived.Deep.CutBlock
namespace Go.Proofs.Yteejfjgofpolkaa
set_option linter.unusedVariables false
set_option linter.unusedSimpArgs false
set_option maxRecDepth 100000
open Go.RowKit Go.Deep
/-- An int64. -/
def I64 (x : Int) : Prop := -9223372036854775808 ≤ x ∧ x ≤ 9223372036854775807
/-- What lies beside the two rows. -/
structure DK (W0 wr : World) (N : Nat) (es : List (Nat × Nat)) (g : Nat) (bA : Option Addr) (bn bc : Nat) (bs : List Int) (kS gR gT lo hi gG : Nat) (A3 : Option Addr) (c3 : Nat) (F : Nat → Int) : Prop where
  cr : Cs wr gR [.slice none 0 0, .slice none 0 0]
  gr : GrR lo hi wr gG N es
  ro : IR lo hi wr A3 N c3 (lst N F)
  sr : Src wr g bA bn bc bs kS
  bl : Below W0.heap.size W0 wr
  pos : W0.heap.size ≤ g ∧ g < gR ∧ gR < gT ∧ gT < lo ∧ hi ≤ wr.heap.size
/-- Where a row of the call's own may lie. -/
def OffD (g gR lo hi : Nat) (v : Value) : Prop := ∀ r, v.ownBlock = some r → g < r ∧ r ≠ gR ∧ (r < lo ∨ hi ≤ r)
section
variable {W0 wr w1 : World} {N : Nat} {es : List (Nat × Nat)} {g : Nat} {bA : Option Addr} {bn bc : Nat} {bs : List Int} {kS gR gT lo hi gG : Nat} {A3 : Option Addr} {c3 : Nat} {F : Nat → Int}
variable {A1 : Option Addr} {k1 c1 : Nat} {z1 : List Int} {A2 : Option Addr} {k2 c2 : Nat} {z2 : List Int}
theorem DK.below (h : DK W0 wr N es g bA bn bc bs kS gR gT lo hi gG A3 c3 F) (b : Below wr.heap.size wr w1) : DK W0 w1 N es g bA bn bc bs kS gR gT lo hi gG A3 c3 F :=
  ⟨h.cr.below b, h.gr.below b, h.ro.below b, h.sr.kept b, bel_trans h.bl b, h.pos.1, h.pos.2.1, h.pos.2.2.1, h.pos.2.2.2.1, Nat.le_trans h.pos.2.2.2.2 b.size⟩
theorem DK.grown {row : Option Nat} (h : DK W0 wr N es g bA bn bc bs kS gR gT lo hi gG A3 c3 F) (hg : wr.grownBy w1 row) (hr : ∀ r, row = some r → g < r ∧ r ≠ gR ∧ (r < lo ∨ hi ≤ r)) : DK W0 w1 N es g bA bn bc bs kS gR gT lo hi gG A3 c3 F := by
  have p := h.pos
  have sz := hg.size
  exact ⟨h.cr.kept hg (fun e => (hr gR e.symm).2.1 rfl), h.gr.grown hg fun r e => (hr r e).2.2, h.ro.grown hg fun r e => (hr r e).2.2, h.sr.grown hg fun r e => (hr r e).1, h.bl.grown hg h.bl.size (fun r e => by have := (hr r e).1; omega), p.1, p.2.1, p.2.2.1, p.2.2.2.1, by omega⟩
theorem DK.src {k' : Nat} (h : DK W0 wr N es g bA bn bc bs kS gR gT lo hi gG A3 c3 F) (hs : Src w1 g bA bn bc bs k') (hg : wr.grownBy w1 (some g)) : DK W0 w1 N es g bA bn bc bs k' gR gT lo hi gG A3 c3 F := by
  have p := h.pos
  have sz := hg.size
  exact ⟨h.cr.kept hg (fun e => by injection e with e; omega), h.gr.grown hg (fun r e => by injection e with e; omega), h.ro.grown hg (fun r e => by injection e with e; omega), hs, h.bl.grown hg h.bl.size (fun r e => by injection e with e; omega), p.1, p.2.1, p.2.2.1, p.2.2.2.1, by omega⟩
theorem SI.grown {row : Option Nat} (h : SI wr W0.heap.size gT A1 k1 c1 z1 A2 k2 c2 z2) (hg : wr.grownBy w1 row) (h1 : some gT ≠ row) (h2 : (Value.slice A1 k1 c1).ownBlock = none ∨ (Value.slice A1 k1 c1).ownBlock ≠ row) (h3 : (Value.slice A2 k2 c2).ownBlock = none ∨ (Value.slice A2 k2 c2).ownBlock ≠ row) : SI w1 W0.heap.size gT A1 k1 c1 z1 A2 k2 c2 z2 :=
  ⟨h.cs.kept hg h1, h.o1.kept hg h2, h.o2.kept hg h3, h.n1, h.n2, h.ap⟩
theorem offD_ne {v : Value} (h : OffD g gR lo hi v) : v.ownBlock = none ∨ v.ownBlock ≠ some g := by
  cases hv : v.ownBlock with
  | none => exact .inl rfl
  | some x => exact .inr (fun e => by injection e with e; have := (h x hv).1; omega)
theorem SI.src (h : SI wr W0.heap.size gT A1 k1 c1 z1 A2 k2 c2 z2) (hg : wr.grownBy w1 (some g)) (hT : g < gT) (h1 : OffD g gR lo hi (.slice A1 k1 c1)) (h2 : OffD g gR lo hi (.slice A2 k2 c2)) : SI w1 W0.heap.size gT A1 k1 c1 z1 A2 k2 c2 z2 :=
  h.grown hg (fun e => by injection e with e; omega) (offD_ne h1) (offD_ne h2)
theorem OffD.new {v v' : Value} (h : OffD g gR lo hi v) (hk : DK W0 wr N es g bA bn bc bs kS gR gT lo hi gG A3 c3 F) (hn : NewBlk wr v v') : OffD g gR lo hi v' := by
  intro r hr
  have p := hk.pos
  have q := hk.gr.1
  rcases hn with e | ⟨x, e, hx⟩
  · rw [e] at hr; exact h r hr
  · rw [e] at hr; injection hr with hr; subst hr; exact ⟨by omega, by omega, .inr (by omega)⟩
theorem dk_app0 {A7 : Option Addr} {n7 c7 : Nat} {z7 : List Int} {w7 : World} (h : DK W0 wr N es g bA bn bc bs kS gR gT lo hi gG A3 c3 F) (s : SI wr W0.heap.size gT A1 k1 c1 z1 A2 k2 c2 z2) (h1 : OffD g gR lo hi (.slice A1 k1 c1))
    (p1 : OwnI w7 W0.heap.size A7 n7 c7 z7) (p2 : wr.grownBy w7 (Value.slice A1 k1 c1).ownBlock) (p3 : NewBlk wr (.slice A1 k1 c1) (.slice A7 n7 c7)) :
    (Cs w7 gT [.slice A1 k1 c1, .slice A2 k2 c2] ∧ IR lo hi w7 A3 N c3 (lst N F)) ∧ DK W0 (w7.setCell ⟨gT, 0, none⟩ (.slice A7 n7 c7)) N es g bA bn bc bs kS gR gT lo hi gG A3 c3 F ∧
      SI (w7.setCell ⟨gT, 0, none⟩ (.slice A7 n7 c7)) W0.heap.size gT A7 n7 c7 z7 A2 k2 c2 z2 ∧ OffD g gR lo hi (.slice A7 n7 c7) := by
  obtain ⟨q1, q2⟩ := s.app0 p1 p2 p3
  have k7 := h.grown p2 h1
  have p := h.pos
  exact ⟨⟨q1, k7.ro⟩, k7.grown (grown_cell w7 gT 0 _) (fun r e => by injection e with e; omega), q2, h1.new h p3⟩
theorem dk_app1 {A7 : Option Addr} {n7 c7 : Nat} {z7 : List Int} {w7 : World} (h : DK W0 wr N es g bA bn bc bs kS gR gT lo hi gG A3 c3 F) (s : SI wr W0.heap.size gT A1 k1 c1 z1 A2 k2 c2 z2) (h2 : OffD g gR lo hi (.slice A2 k2 c2))
    (p1 : OwnI w7 W0.heap.size A7 n7 c7 z7) (p2 : wr.grownBy w7 (Value.slice A2 k2 c2).ownBlock) (p3 : NewBlk wr (.slice A2 k2 c2) (.slice A7 n7 c7)) :
    Cs w7 gT [.slice A1 k1 c1, .slice A2 k2 c2] ∧ DK W0 (w7.setCell ⟨gT, 1, none⟩ (.slice A7 n7 c7)) N es g bA bn bc bs kS gR gT lo hi gG A3 c3 F ∧
      SI (w7.setCell ⟨gT, 1, none⟩ (.slice A7 n7 c7)) W0.heap.size gT A1 k1 c1 z1 A7 n7 c7 z7 ∧ OffD g gR lo hi (.slice A7 n7 c7) := by
  obtain ⟨q1, q2⟩ := s.app1 p1 p2 p3
  have k7 := h.grown p2 h2
  have p := h.pos
  exact ⟨q1, k7.grown (grown_cell w7 gT 1 _) (fun r e => by injection e with e; omega), q2, h2.new h p3⟩
/-- The end: the result's block, the strategy's block, its rows. -/
structure DE (W0 wr : World) (gR gT : Nat) (A1 : Option Addr) (k1 c1 : Nat) (z1 : List Int) (A2 : Option Addr) (k2 c2 : Nat) (z2 : List Int) : Prop where
  cr : Cs wr gR [.slice none 0 0, .slice none 0 0]
  cs : Cs wr gT [.slice A1 k1 c1, .slice A2 k2 c2]
  i1 : Ints .i64 wr A1 k1 c1 z1
  i2 : Ints .i64 wr A2 k2 c2 z2
  a1 : ∀ a, A1 = some a → a.block ≠ gR ∧ W0.heap.size ≤ a.block
  a2 : ∀ a, A2 = some a → a.block ≠ gR ∧ W0.heap.size ≤ a.block
  bl : Below W0.heap.size W0 wr
  pos : W0.heap.size ≤ gR ∧ gR < gT
theorem offD_at {A : Option Addr} {n c : Nat} {lo0 : Nat} {zs : List Int} (o : OwnI wr lo0 A n c zs) (h : OffD g gR lo hi (.slice A n c)) : ∀ a, A = some a → a.block ≠ gR ∧ lo0 ≤ a.block := by
  intro a ha
  subst ha
  rcases o.1.2 with ⟨h, _⟩ | ⟨x, cap, cur, e, _⟩
  · injection h with h; exact absurd h (by simp)
  · injection e with e
    injection e with e
    subst e
    exact ⟨(h x rfl).2.1, (o.block x rfl).1⟩
theorem DK.fin (h : DK W0 wr N es g bA bn bc bs kS gR gT lo hi gG A3 c3 F) (s : SI wr W0.heap.size gT A1 k1 c1 z1 A2 k2 c2 z2) (h1 : OffD g gR lo hi (.slice A1 k1 c1)) (h2 : OffD g gR lo hi (.slice A2 k2 c2)) : DE W0 wr gR gT A1 k1 c1 z1 A2 k2 c2 z2 :=
  ⟨h.cr, s.cs, s.o1.ints, s.o2.ints, offD_at s.o1 h1, offD_at s.o2 h2, h.bl, by have := h.pos; omega, h.pos.2.2.1⟩
end
theorem l00Min11_any (n : Nat) (hn : n ≤ 10) (w : World) : Calls Try.prog 120 #[.int .i64 n, .int .i64 11] w fun e w' => e = .returned (.int .i64 n) ∧ w = w' := by
  have hd := decide_eq_true (show (n : Int) < 11 by omega)
  go_enter Try.func120, Try.ntmps120
  go_wp2_with fail
  go_ret
  exact ⟨rfl, rfl⟩
theorem l08DrawArgument_any (N : Nat) (hN : N ≤ 10) (gF : Nat) (q : Value) (g : Nat) (A : Option Addr) (n c : Nat) (bs : List Int) (k : Nat) (hk : k ≤ 1099511626000) (w : World) (C : Cs w gF [.int .i64 N, q]) (hne : gF ≠ g) (h : Src w g A n c bs k) :
    Calls Try.prog 110 #[.pointer (some ⟨g, 0, none⟩), .pointer (some ⟨gF, 0, none⟩)] w (Asked I64 g A n c bs k 4 w) := by
  have HC := Lib.hid C
  have gl := h.lt
  clear C
  go_enter Try.func110, Try.ntmps110
  go_wp2_with fail
  refine (one_any 14 g A n c bs k _ h (by omega) (by omega) (by omega)).mono ?_
  rintro e w1 ⟨r, k1, rfl, k10, k11, hs1, hg1⟩
  have C1 := HC.out.kept hg1 (fun e => hne (by injection e))
  have y0 := C1.cell 0 rfl
  have G1 := Lib.hid hg1
  have S1 := Lib.hid hs1
  have sz := hg1.size
  clear hs1 hg1 C1
  cases r
  · go_wp2_with fail
    refine (l00Min11_any N hN _).mono ?_
    rintro e w2 ⟨rfl, rfl⟩
    go_wp2_with fail
    refine (pick_any N g A n c bs k1 _ S1.out (by omega) (by omega) (by omega)).mono ?_
    rintro e w3 ⟨p, k3, rfl, hp, k30, k31, hs3, hg3⟩
    have G3 := Lib.hid (grown_trans G1.out hg3)
    have S3 := Lib.hid hs3
    have PL := Lib.hid (show I64 p from by
      unfold I64
      obtain ⟨p0, p1, p2⟩ := hp
      by_cases e : 1 < (N : Int)
      · have := p1 e; omega
      · have := p2 (by omega); omega)
    clear hs3 hg3 hp
    go_wp2_with fail
    go_ret
    exact ⟨p, k3, rfl, PL.out, by omega, by omega, S3.out, G3.out⟩
  · have OL := Lib.hid (show OwnI (w1.alloc (.cells #[.int .i64 (-1), .int .i64 N, .int .i64 9223372036854775807] 2)) w1.heap.size (some ⟨w1.heap.size, 0, none⟩) 3 3 [-1, (N : Int), 9223372036854775807] from ownI_lits w1 [-1, (N : Int), 9223372036854775807] (by intro z hz; simp at hz; rcases hz with rfl | rfl | rfl <;> exact WalkArith.wf_i64 (by omega)) (by simp))
    have AL := Lib.hid (bel_alloc w1 (.cells #[.int .i64 (-1), .int .i64 N, .int .i64 9223372036854775807] 2))
    have SL := Lib.hid (S1.out.kept AL.out)
    have IL := Lib.hid OL.out.ints
    have GA := Lib.hid (World.grownBy_alloc w1 (.cells #[.int .i64 (-1), .int .i64 N, .int .i64 9223372036854775807] 2) (some g))
    go_wp2_with fail
    refine (among_any (some ⟨w1.heap.size, 0, none⟩) 3 3 [-1, (N : Int), 9223372036854775807] I64 g A n c bs k1 _ SL.out (by omega) IL.out (by omega) (by intro a ha; injection ha with ha; subst ha; show w1.heap.size ≠ g; omega) (by intro z hz; simp at hz; unfold I64; rcases hz with rfl | rfl | rfl <;> omega)).mono ?_
    rintro e w3 ⟨p, k3, rfl, hp, k30, k31, hs3, hg3⟩
    have G3 := Lib.hid (grown_trans G1.out (grown_trans GA.out hg3))
    have S3 := Lib.hid hs3
    have PL := Lib.hid hp
    clear hs3 hg3 hp
    go_wp2_with fail
    go_ret
    exact ⟨p, k3, rfl, PL.out, by omega, by omega, S3.out, G3.out⟩
end Go.Proofs.Yteejfjgofpolkaa
