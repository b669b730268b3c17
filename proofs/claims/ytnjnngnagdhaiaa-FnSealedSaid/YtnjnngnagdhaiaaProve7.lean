/- The law on proving a bit: marks, what is held, and the walk. -/
import Derived.Test.YtnjnngnagdhaiaaProve6
namespace Go.Proofs.Ytnjnngnagdhaiaa
set_option linter.unusedVariables false
open Go.RowKit
/-! ### Kept where the blocks that matter are the same -/
theorem OwnI.same {w w' : World} {base : Nat} {A : Option Addr} {n c : Nat} {zs : List Int} (h : OwnI w base A n c zs) (hs : ∀ g, (Value.slice A n c).ownBlock = some g → w'.heap[g]? = w.heap[g]?) : OwnI w' base A n c zs := by
  refine ⟨⟨h.1.1, ?_⟩, h.2⟩
  rcases h.1.2 with hn | ⟨g, cap, cur, hv, hb, hgg, rest⟩
  · exact .inl hn
  · refine .inr ⟨g, cap, cur, hv, hb, ?_, rest⟩
    rw [hs g (by rw [hv]; rfl)]
    exact hgg
theorem Cs.same {w w' : World} {g : Nat} {l : List Value} (h : Cs w g l) (hz : w.heap.size ≤ w'.heap.size) (hs : w'.heap[g]? = w.heap[g]?) : Cs w' g l :=
  ⟨Nat.lt_of_lt_of_le h.1 hz, fun j v hj => ⟨(World.cell?_of_block (w := w) hs).trans (h.2 j v hj).1, (World.frozen?_of_block (w := w) hs).trans (h.2 j v hj).2⟩⟩
theorem OwnI.belowB {w w' : World} {base B : Nat} {A : Option Addr} {n c : Nat} {zs : List Int} (h : OwnI w base A n c zs) (hlt : ∀ g, (Value.slice A n c).ownBlock = some g → g < B) (hb : Below B w w') : OwnI w' base A n c zs :=
  h.same fun g hg => hb.block g (hlt g hg)
theorem Cs.belowB {w w' : World} {g B : Nat} {l : List Value} (h : Cs w g l) (hlt : g < B) (hb : Below B w w') : Cs w' g l := h.same hb.size (hb.block g hlt)
/-- Every block but those of S is as it was. -/
structure KeptBut (S : Nat → Prop) (w w' : World) : Prop where
  os : w'.os = w.os
  tape : w'.tape = w.tape
  output : w'.output = w.output
  size : w.heap.size ≤ w'.heap.size
  block : ∀ k, k < w.heap.size → ¬ S k → w'.heap[k]? = w.heap[k]?
theorem KeptBut.trans {S : Nat → Prop} {a b c : World} (h : KeptBut S a b) (k : KeptBut S b c) : KeptBut S a c :=
  ⟨k.os.trans h.os, k.tape.trans h.tape, k.output.trans h.output, Nat.le_trans h.size k.size, fun i hi hs => (k.block i (Nat.lt_of_lt_of_le hi h.size) hs).trans (h.block i hi hs)⟩
theorem KeptBut.of_below {S : Nat → Prop} {w w' : World} (h : Below w.heap.size w w') : KeptBut S w w' := ⟨h.os, h.tape, h.output, h.size, fun k hk _ => h.block k hk⟩
theorem KeptBut.of_grown {S : Nat → Prop} {w w' : World} {row : Option Nat} (h : w.grownBy w' row) (hs : ∀ k, row = some k → S k) : KeptBut S w w' := ⟨h.os, h.tape, h.output, h.size, fun k hk hn => h.block k hk (fun e => hn (hs k e.symm))⟩
theorem KeptBut.below {S : Nat → Prop} {w w' : World} {B : Nat} (h : KeptBut S w w') (hB : B ≤ w.heap.size) (hs : ∀ k, S k → B ≤ k) : Below B w w' :=
  ⟨h.os, h.tape, h.output, h.size, fun k hk => h.block k (Nat.lt_of_lt_of_le hk hB) (fun e => by have := hs k e; omega)⟩
theorem KeptBut.mono {S T : Nat → Prop} {w w' : World} (h : KeptBut S w w') (hs : ∀ k, S k → T k) : KeptBut T w w' := ⟨h.os, h.tape, h.output, h.size, fun k hk hn => h.block k hk (fun e => hn (hs k e))⟩
/-- The three rows of a proof. -/
structure BPs (w : World) (base : Nat) (A : Option Addr) (n c : Nat) (ms : List Int) (B : Option Addr) (m d : Nat) (cs : List Int) (C : Option Addr) (l f : Nat) (as_ : List Int) : Prop where
  oa : OwnI w base A n c ms
  ob : OwnI w base B m d cs
  oc : OwnI w base C l f as_
  ab : Apart (.slice A n c) (.slice B m d)
  ac : Apart (.slice A n c) (.slice C l f)
  bc : Apart (.slice B m d) (.slice C l f)
section
variable {w w' : World} {base : Nat} {A : Option Addr} {n c : Nat} {ms : List Int} {B : Option Addr} {m d : Nat} {cs : List Int} {C : Option Addr} {l f : Nat} {as_ : List Int}
theorem BPs.below (h : BPs w base A n c ms B m d cs C l f as_) (hb : Below w.heap.size w w') : BPs w' base A n c ms B m d cs C l f as_ := ⟨h.oa.below hb, h.ob.below hb, h.oc.below hb, h.ab, h.ac, h.bc⟩
theorem BPs.kept_new {x : Value} (h : BPs w base A n c ms B m d cs C l f as_) (hlt : ∀ g, x.ownBlock = some g → g < base) (hg : w.grownBy w' x.ownBlock) : BPs w' base A n c ms B m d cs C l f as_ := by
  have k : ∀ {A : Option Addr} {n c : Nat} {zs : List Int}, OwnI w base A n c zs → OwnI w' base A n c zs := fun {A n c zs} o => o.same fun g hg' =>
    hg.block g (o.block g hg').2 (fun e => by have := hlt g e.symm; have := (o.block g hg').1; omega)
  exact ⟨k h.oa, k h.ob, k h.oc, h.ab, h.ac, h.bc⟩
theorem BPs.old {Z : Nat} (h : BPs w base A n c ms B m d cs C l f as_) (hz : w.heap.size ≤ Z) : ∀ {w1 w2 : World}, BPs w1 base A n c ms B m d cs C l f as_ → Below Z w1 w2 → BPs w2 base A n c ms B m d cs C l f as_ := by
  intro w1 w2 h1 hb
  exact ⟨h1.oa.belowB (fun g hg => Nat.lt_of_lt_of_le (h.oa.block g hg).2 hz) hb, h1.ob.belowB (fun g hg => Nat.lt_of_lt_of_le (h.ob.block g hg).2 hz) hb, h1.oc.belowB (fun g hg => Nat.lt_of_lt_of_le (h.oc.block g hg).2 hz) hb, h.ab, h.ac, h.bc⟩
end
theorem markBitProof_any (base : Nat) (A : Option Addr) (n c : Nat) (ms : List Int) (B : Option Addr) (m d : Nat) (cs : List Int) (C : Option Addr) (l f : Nat) (as_ : List Int) (k : Int) (w : World)
    (h : BPs w base A n c ms B m d cs C l f as_) (h0 : 0 ≤ k) (h1 : k ≤ 1048576) (n1 : n ≤ 1048576) (n2 : m ≤ 1048576) (n3 : l ≤ 1048576) :
    Calls Try.prog 25 #[.agg #[.slice A n c, .slice B m d, .slice C l f], .int .i64 k] w fun e w' => e = .returned (.int .i64 (k + n + m + l)) ∧ BPs w' base A n c (iota k n) B m d (iota (k + n) m) C l f (iota (k + n + m) l) ∧ KeptBut (fun x => (Value.slice A n c).ownBlock = some x ∨ (Value.slice B m d).ownBlock = some x ∨ (Value.slice C l f).ownBlock = some x) w w' := by
  have C0 := Cs.new w [.slice A n c, .slice B m d, .slice C l f] 31
  have b0 := bel_alloc w (.cells [.slice A n c, .slice B m d, .slice C l f].toArray 31)
  have ne : ∀ (A : Option Addr) (n c : Nat) (zs : List Int), OwnI w base A n c zs → some w.heap.size ≠ (Value.slice A n c).ownBlock := fun A n c zs o e => by
    have := (o.block _ e.symm).2; omega
  have NE := Lib.hid ne
  clear ne
  have H0 := h.below b0
  go_enter Try.func25, Try.ntmps25
  go_wp2_with fail
  refine (markInt64S_any base A n c ms k _ H0.oa h0 (by omega) (by omega)).mono ?_
  rintro e w1 ⟨rfl, o1, g1⟩
  have C1 := C0.kept g1 (NE.out _ _ _ _ h.oa)
  have p1 := (KeptBut.of_below (S := fun x => (Value.slice A n c).ownBlock = some x ∨ (Value.slice B m d).ownBlock = some x ∨ (Value.slice C l f).ownBlock = some x) b0).trans (.of_grown g1 fun x hx => .inl hx)
  have u1 := H0.ob.kept g1 (h.ab.symm)
  have v1 := H0.oc.kept g1 (h.ac.symm)
  have q0a := C1.cell 0 rfl
  have q1a := C1.cell 1 rfl
  have q2a := C1.cell 2 rfl
  have f0a := C1.free 0 rfl
  have f1a := C1.free 1 rfl
  have f2a := C1.free 2 rfl
  have lta := C1.1
  go_wp2_with fail
  refine (markInt64S_any base B m d cs (k + n) _ u1 (by omega) (by omega) (by omega)).mono ?_
  rintro e w2 ⟨rfl, o2, g2⟩
  have C2 := C1.kept g2 (NE.out _ _ _ _ h.ob)
  have p2 := p1.trans (.of_grown g2 fun x hx => .inr (.inl hx))
  have t2 := o1.kept g2 h.ab
  have v2 := v1.kept g2 (h.bc.symm)
  have q0b := C2.cell 0 rfl
  have q1b := C2.cell 1 rfl
  have q2b := C2.cell 2 rfl
  have f0b := C2.free 0 rfl
  have f1b := C2.free 1 rfl
  have f2b := C2.free 2 rfl
  have ltb := C2.1
  go_wp2_with fail
  refine (markInt64S_any base C l f as_ (k + n + m) _ v2 (by omega) (by omega) (by omega)).mono ?_
  rintro e w3 ⟨rfl, o3, g3⟩
  have p3 := p2.trans (.of_grown g3 fun x hx => .inr (.inr hx))
  have t3 := t2.kept g3 h.ac
  have u3 := o2.kept g3 h.bc
  go_wp2_with fail
  go_ret
  exact ⟨rfl, ⟨t3, u3, o3, h.ab, h.ac, h.bc⟩, p3⟩
theorem heldBitProof_any (A : Option Addr) (n c : Nat) (B : Option Addr) (m d : Nat) (C : Option Addr) (l f : Nat) (k : Int) (w : World)
    (i1 : Ints .i64 w A n c (iota k n)) (i2 : Ints .i64 w B m d (iota (k + n) m)) (i3 : Ints .i64 w C l f (iota (k + n + m) l)) (h0 : 0 ≤ k) (h1 : k ≤ 1048576) (n1 : n ≤ 1048576) (n2 : m ≤ 1048576) (n3 : l ≤ 1048576) :
    Calls Try.prog 26 #[.agg #[.slice A n c, .slice B m d, .slice C l f], .int .i64 k] w fun e w' => e = .returned (.int .i64 (k + n + m + l)) ∧ Below w.heap.size w w' := by
  have C0 := Cs.new w [.slice A n c, .slice B m d, .slice C l f] 31
  have b0 := bel_alloc w (.cells [.slice A n c, .slice B m d, .slice C l f].toArray 31)
  go_enter Try.func26, Try.ntmps26
  go_wp2_with fail
  refine (heldInt64S_any A n c k _ (i1.below b0) h0 (by omega) (by omega)).mono ?_
  rintro e w1 ⟨rfl, t1⟩
  have C1 := C0.below t1
  have b1 := bel_trans b0 t1
  have q0a := C1.cell 0 rfl
  have q1a := C1.cell 1 rfl
  have q2a := C1.cell 2 rfl
  have f0a := C1.free 0 rfl
  have f1a := C1.free 1 rfl
  have f2a := C1.free 2 rfl
  have lta := C1.1
  go_wp2_with fail
  refine (heldInt64S_any B m d (k + n) _ (i2.below b1) (by omega) (by omega) (by omega)).mono ?_
  rintro e w2 ⟨rfl, t2⟩
  have C2 := C1.below t2
  have b2 := bel_trans b1 t2
  have q0b := C2.cell 0 rfl
  have q1b := C2.cell 1 rfl
  have q2b := C2.cell 2 rfl
  have f0b := C2.free 0 rfl
  have f1b := C2.free 1 rfl
  have f2b := C2.free 2 rfl
  have ltb := C2.1
  go_wp2_with fail
  refine (heldInt64S_any C l f (k + n + m) _ (i3.below b2) (by omega) (by omega) (by omega)).mono ?_
  rintro e w3 ⟨rfl, t3⟩
  have b3 := bel_trans b2 t3
  go_wp2_with fail
  go_ret
  exact ⟨rfl, b3⟩
theorem pr_len (bit key : Int) (zs : List Int) : (prMV bit key zs).length ≤ 2 ∧ (prCV bit key zs).length ≤ 2 ∧ (prAV bit key zs).length ≤ 2 := by
  unfold prMV prCV prAV
  split <;> simp [prM, prC, prA, two_length]
set_option maxRecDepth 100000 in
set_option maxHeartbeats 2000000 in
theorem fnExactProveBit_walk (w : World) (bit : Int) (l0 : -9223372036854775808 ≤ bit) (h0 : bit ≤ 9223372036854775807) (key : Int) (l1 : -9223372036854775808 ≤ key) (h1 : key ≤ 9223372036854775807) (A : Option Addr) (n c : Nat) (zs : List Int) (h : Ints .i64 w A n c zs) :
    Calls Try.prog 5 #[.int .i64 bit, .int .i64 key, .slice A n c] w fun e w' => e = .returned (.bool true) ∧ Below w.heap.size w w' := by
  have hm := h.short
  obtain ⟨ms, hms⟩ : ∃ x, prMV bit key zs = x := ⟨_, rfl⟩
  obtain ⟨cs, hcs⟩ : ∃ x, prCV bit key zs = x := ⟨_, rfl⟩
  obtain ⟨as_, has⟩ : ∃ x, prAV bit key zs = x := ⟨_, rfl⟩
  obtain ⟨ok, hok⟩ : ∃ x, prB bit key zs = x := ⟨_, rfl⟩
  obtain ⟨N1, N2, N3⟩ := pr_len bit key zs
  rw [hms] at N1
  rw [hcs] at N2
  rw [has] at N3
  have SP := Lib.hid (fun (A : Option Addr) (n c : Nat) (w : World) (h : Ints .i64 w A n c zs) => specProveBit_any bit key A n c zs w h)
  have IP := Lib.hid (fun (A : Option Addr) (n c : Nat) (w : World) (h : Ints .i64 w A n c zs) => proveBit_any bit key A n c zs w h)
  rw [hms, hcs, has, hok] at SP IP
  have HL := Lib.hid h.1
  clear hms hcs has hok
  by_cases hn : n ≤ 1048576
  · have hz : zs.length ≤ 1048576 := by rw [HL.out]; exact hn
    go_enter Try.func5, Try.ntmps5
    go_wp2_with fail
    refine (toInt64S_any A n c zs _ h hn).mono ?_
    rintro e w1 ⟨A1, c1, rfl, o1, b1⟩
    go_wp2_with fail
    refine (SP.out _ _ _ _ o1.ints).mono ?_
    rintro e w2 ⟨A2, c2, B2, d2, C2, f2, rfl, x1, x2, x3, ⟨x4, x5, x6⟩, b2⟩
    have X2 : BPs w2 w1.heap.size A2 ms.length c2 ms B2 cs.length d2 cs C2 as_.length f2 as_ := ⟨x1, x2, x3, x4, x5, x6⟩
    have S2 := Lib.hid (fun (Z : Nat) (hz : w2.heap.size ≤ Z) (u v : World) => X2.old hz (w1 := u) (w2 := v))
    clear x1 x2 x3 x4 x5 x6
    have bb2 := bel_trans b1 b2
    have D2 := Cs.new w2 [.slice A2 ms.length c2, .slice B2 cs.length d2, .slice C2 as_.length f2] 31
    have t3 := bel_alloc w2 (.cells [.slice A2 ms.length c2, .slice B2 cs.length d2, .slice C2 as_.length f2].toArray 31)
    have bb3 := bel_trans bb2 t3
    have X3 := X2.below t3
    go_wp2_with fail
    refine (toInt64S_any A n c zs _ (h.below bb3) hn).mono ?_
    rintro e w4 ⟨A4, c4, rfl, o4, b4⟩
    have bb4 := bel_trans bb3 b4
    have D4 := D2.below b4
    have X4 := X3.below b4
    have q0a := D4.cell 0 rfl
    have q1a := D4.cell 1 rfl
    have q2a := D4.cell 2 rfl
    have f0a := D4.free 0 rfl
    have f1a := D4.free 1 rfl
    have f2a := D4.free 2 rfl
    have lta := D4.1
    go_wp2_with fail
    refine (IP.out _ _ _ _ o4.ints).mono ?_
    rintro e w5 ⟨A5, c5, B5, d5, C5, f5, rfl, x1, x2, x3, ⟨x4, x5, x6⟩, b5⟩
    have G5 : BPs w5 w4.heap.size A5 ms.length c5 ms B5 cs.length d5 cs C5 as_.length f5 as_ := ⟨x1, x2, x3, x4, x5, x6⟩
    clear x1 x2 x3 x4 x5 x6
    have bb5 := bel_trans bb4 b5
    have D5 := D4.below b5
    have X5 := X4.below b5
    have o5 := o4.below b5
    have t6 := bel_alloc w5 (.cells [.slice A5 ms.length c5, .slice B5 cs.length d5, .slice C5 as_.length f5].toArray 31)
    have E6 := Cs.new w5 [.slice A5 ms.length c5, .slice B5 cs.length d5, .slice C5 as_.length f5] 31
    have bb6 := bel_trans bb5 t6
    have D6 := D5.below t6
    have X6 := X5.below t6
    have G6 := G5.below t6
    have o6 := o5.below t6
    have q0b := D5.cell 0 rfl
    have q1b := D5.cell 1 rfl
    have q2b := D5.cell 2 rfl
    have f0b := D5.free 0 rfl
    have f1b := D5.free 1 rfl
    have f2b := D5.free 2 rfl
    have ltb := D5.1
    go_wp2_with fail
    refine (eqBitProof_same A5 _ c5 ms B5 _ d5 cs C5 _ f5 as_ A2 c2 B2 d2 C2 f2 _ G6.oa.ints G6.ob.ints G6.oc.ints X6.oa.ints X6.ob.ints X6.oc.ints).mono ?_
    rintro e w7 ⟨rfl, b7⟩
    have bb7 := bel_trans bb6 b7
    have D7 := D6.below b7
    have E7 := E6.below b7
    have X7 := X6.below b7
    have G7 := G6.below b7
    have o7 := o6.below b7
    have q0c := D7.cell 0 rfl
    have q1c := D7.cell 1 rfl
    have q2c := D7.cell 2 rfl
    have f0c := D7.free 0 rfl
    have f1c := D7.free 1 rfl
    have f2c := D7.free 2 rfl
    have ltc := D7.1
    have q0d := E7.cell 0 rfl
    have q1d := E7.cell 1 rfl
    have q2d := E7.cell 2 rfl
    have f0d := E7.free 0 rfl
    have f1d := E7.free 1 rfl
    have f2d := E7.free 2 rfl
    have ltd := E7.1
    have qr : (ok == ok) = true := by simp
    have qr2 : (ok != ok) = false := by simp
    go_wp2_with fail
    refine (toInt64S_any A n c zs _ (h.below bb7) hn).mono ?_
    rintro e w8 ⟨A8, c8, rfl, o8, b8⟩
    have bb8 := bel_trans bb7 b8
    have D8 := D7.below b8
    have E8 := E7.below b8
    have X8 := X7.below b8
    have G8 := G7.below b8
    have p8 := o7.below b8
    go_wp2_with fail
    refine (eqInt64S_any A4 _ c4 zs A8 _ c8 zs _ p8.ints o8.ints).mono ?_
    rintro e w9 ⟨rfl, b9⟩
    rw [show decide (zs = zs) = true by simp]
    have bb9 := bel_trans bb8 b9
    have D9 := D8.below b9
    have E9 := E8.below b9
    have X9 := X8.below b9
    have G9 := G8.below b9
    have o9 := p8.below b9
    go_wp2_with fail
    refine (markInt64S_any _ A4 _ c4 zs 1 _ o9 (by omega) (by omega) (by omega)).mono ?_
    rintro e w10 ⟨rfl, o10, g10⟩
    have s34 := o4.block
    have z9 := b9.size
    have z45 : w4.heap.size ≤ w5.heap.size := b5.size
    have z24 : w2.heap.size + 1 ≤ w4.heap.size := by have := b4.size; simpa using this
    have z59 : w5.heap.size < w9.heap.size := E9.1
    have z02 : w.heap.size ≤ w2.heap.size := bb2.size
    have L10 : Below (w2.heap.size + 1) w9 w10 := (Below.refl _ _).grown g10 (by omega) (fun x hx => by have := (s34 x hx).1; simpa using this)
    have bb10 := bb9.trans (L10.mono (by omega))
    have D10 := D9.belowB (by omega) L10
    have X10 := S2.out _ (by omega) _ _ X9 L10
    have E10 := E9.kept g10 (fun e => by have := (s34 _ e.symm).2; omega)
    have G10 := G9.kept_new (fun x hx => (s34 x hx).2) g10
    clear s34 L10 g10 o10
    have q0e := D10.cell 0 rfl
    have q1e := D10.cell 1 rfl
    have q2e := D10.cell 2 rfl
    have f0e := D10.free 0 rfl
    have f1e := D10.free 1 rfl
    have f2e := D10.free 2 rfl
    have lte := D10.1
    have q0f := E10.cell 0 rfl
    have q1f := E10.cell 1 rfl
    have q2f := E10.cell 2 rfl
    have f0f := E10.free 0 rfl
    have f1f := E10.free 1 rfl
    have f2f := E10.free 2 rfl
    have ltf := E10.1
    go_wp2_with fail
    refine (eqBitProof_same A5 _ c5 ms B5 _ d5 cs C5 _ f5 as_ A2 c2 B2 d2 C2 f2 _ G10.oa.ints G10.ob.ints G10.oc.ints X10.oa.ints X10.ob.ints X10.oc.ints).mono ?_
    rintro e w11 ⟨rfl, b11⟩
    have bb11 := bel_trans bb10 b11
    have D11 := D10.below b11
    have E11 := E10.below b11
    have X11 := X10.below b11
    have G11 := G10.below b11
    have q0g := D11.cell 0 rfl
    have q1g := D11.cell 1 rfl
    have q2g := D11.cell 2 rfl
    have f0g := D11.free 0 rfl
    have f1g := D11.free 1 rfl
    have f2g := D11.free 2 rfl
    have ltg := D11.1
    have q0h := E11.cell 0 rfl
    have q1h := E11.cell 1 rfl
    have q2h := E11.cell 2 rfl
    have f0h := E11.free 0 rfl
    have f1h := E11.free 1 rfl
    have f2h := E11.free 2 rfl
    have lth := E11.1
    go_wp2_with fail
    refine (markBitProof_any _ A5 _ c5 ms B5 _ d5 cs C5 _ f5 as_ 1 _ G11 (by omega) (by omega) (by omega) (by omega) (by omega)).mono ?_
    rintro e w12 ⟨rfl, G12, k12⟩
    have hS : ∀ x, ((Value.slice A5 ms.length c5).ownBlock = some x ∨ (Value.slice B5 cs.length d5).ownBlock = some x ∨ (Value.slice C5 as_.length f5).ownBlock = some x) → w4.heap.size ≤ x ∧ x < w5.heap.size := by
      rintro x (hx | hx | hx)
      · exact G5.oa.block x hx
      · exact G5.ob.block x hx
      · exact G5.oc.block x hx
    have z11 : w5.heap.size < w11.heap.size := E11.1
    have L12 : Below w4.heap.size w11 w12 := k12.below (by omega) (fun x hx => (hS x hx).1)
    have bb12 := bb11.trans (L12.mono (by omega))
    have D12 := D11.belowB (by omega) L12
    have X12 := S2.out _ (by omega) _ _ X11 L12
    have E12 := E11.same k12.size (k12.block _ z11 (fun hx => by have := (hS _ hx).2; omega))
    clear hS L12 k12
    have q0i := D12.cell 0 rfl
    have q1i := D12.cell 1 rfl
    have q2i := D12.cell 2 rfl
    have f0i := D12.free 0 rfl
    have f1i := D12.free 1 rfl
    have f2i := D12.free 2 rfl
    have lti := D12.1
    have q0j := E12.cell 0 rfl
    have q1j := E12.cell 1 rfl
    have q2j := E12.cell 2 rfl
    have f0j := E12.free 0 rfl
    have f1j := E12.free 1 rfl
    have f2j := E12.free 2 rfl
    have ltj := E12.1
    go_wp2_with fail
    refine (heldBitProof_any A5 _ c5 B5 _ d5 C5 _ f5 1 _ G12.oa.ints G12.ob.ints G12.oc.ints (by omega) (by omega) (by omega) (by omega) (by omega)).mono ?_
    rintro e w13 ⟨rfl, b13⟩
    have bb13 := bel_trans bb12 b13
    have D13 := D12.below b13
    have E13 := E12.below b13
    have X13 := X12.below b13
    have G13 := G12.below b13
    have q0k := D13.cell 0 rfl
    have q1k := D13.cell 1 rfl
    have q2k := D13.cell 2 rfl
    have f0k := D13.free 0 rfl
    have f1k := D13.free 1 rfl
    have f2k := D13.free 2 rfl
    have ltk := D13.1
    have q0l := E13.cell 0 rfl
    have q1l := E13.cell 1 rfl
    have q2l := E13.cell 2 rfl
    have f0l := E13.free 0 rfl
    have f1l := E13.free 1 rfl
    have f2l := E13.free 2 rfl
    have ltl := E13.1
    go_wp2_with fail
    refine (toInt64S_any A n c zs _ (h.below bb13) hn).mono ?_
    rintro e w14 ⟨A14, c14, rfl, o14, b14⟩
    have bb14 := bel_trans bb13 b14
    have D14 := D13.below b14
    have E14 := E13.below b14
    have X14 := X13.below b14
    have G14 := G13.below b14
    go_wp2_with fail
    refine (IP.out _ _ _ _ o14.ints).mono ?_
    rintro e w15 ⟨A15, c15, B15, d15, C15, f15, rfl, x1, x2, x3, ⟨x4, x5, x6⟩, b15⟩
    have t15 := bel_alloc w15 (.cells [.slice A15 ms.length c15, .slice B15 cs.length d15, .slice C15 as_.length f15].toArray 31)
    have F15 := Cs.new w15 [.slice A15 ms.length c15, .slice B15 cs.length d15, .slice C15 as_.length f15] 31
    have x1 := x1.below t15
    have x2 := x2.below t15
    have x3 := x3.below t15
    clear x4 x5 x6
    have bb15 := bel_trans bb14 (bel_trans b15 t15)
    have D15 := (D14.below b15).below t15
    have E15 := (E14.below b15).below t15
    have X15 := (X14.below b15).below t15
    have G15 := (G14.below b15).below t15
    have D15' := D14.below b15
    have E15' := E14.below b15
    have q0m := D15'.cell 0 rfl
    have q1m := D15'.cell 1 rfl
    have q2m := D15'.cell 2 rfl
    have f0m := D15'.free 0 rfl
    have f1m := D15'.free 1 rfl
    have f2m := D15'.free 2 rfl
    have ltm := D15'.1
    go_wp2_with fail
    refine (eqBitProof_same A15 _ c15 ms B15 _ d15 cs C15 _ f15 as_ A2 c2 B2 d2 C2 f2 _ x1.ints x2.ints x3.ints X15.oa.ints X15.ob.ints X15.oc.ints).mono ?_
    rintro e w16 ⟨rfl, b16⟩
    have bb16 := bel_trans bb15 b16
    have E16 := E15.below b16
    have G16 := G15.below b16
    have q0n := E16.cell 0 rfl
    have q1n := E16.cell 1 rfl
    have q2n := E16.cell 2 rfl
    have f0n := E16.free 0 rfl
    have f1n := E16.free 1 rfl
    have f2n := E16.free 2 rfl
    have ltn := E16.1
    go_wp2_with fail
    refine (heldBitProof_any A5 _ c5 B5 _ d5 C5 _ f5 1 _ G16.oa.ints G16.ob.ints G16.oc.ints (by omega) (by omega) (by omega) (by omega) (by omega)).mono ?_
    rintro e w17 ⟨rfl, b17⟩
    have bb17 := bel_trans bb16 b17
    go_wp2_with fail
    go_ret
    exact ⟨rfl, bb17⟩
  · go_enter Try.func5, Try.ntmps5
    go_wp2_with fail
    go_ret
    exact ⟨rfl, Below.refl _ _⟩
end Go.Proofs.Ytnjnngnagdhaiaa
