/- A ballot of the call's own, marked whole, and the marks held. -/
import Derived.Test.YtnjnngnagdhaiaaBalHeld
namespace Go.Proofs.Ytnjnngnagdhaiaa
set_option linter.unusedVariables false
set_option maxRecDepth 100000
open Go.RowKit
/-- A ballot's value: its lists apart, its proofs in a block. -/
structure OB (lo hi : Nat) (w : World) (A : Option Addr) (n c : Nat) (B : Option Addr) (m : Nat) (vs : List Value) (zss : List (List Int)) : Prop where
  rw : RW lo hi w vs zss
  head : vs[0]? = some (.slice A n c)
  hb : HB w B m vs
  len : zss.length = 1 + m * 3
theorem OB.below {lo hi : Nat} {w w' : World} {A : Option Addr} {n c : Nat} {B : Option Addr} {m : Nat} {vs : List Value} {zss : List (List Int)} (h : OB lo hi w A n c B m vs zss) (b : Below w.heap.size w w') : OB lo hi w' A n c B m vs zss :=
  ⟨h.rw.below b, h.head, h.hb.mk (MK.of_below 0 0 b), h.len⟩
set_option maxHeartbeats 1000000 in
theorem markBallot_h (lo hi : Nat) (A : Option Addr) (n c : Nat) (B : Option Addr) (m d : Nat) (key k : Int) (w : World) (vs : List Value) (zss : List (List Int)) (h : OB lo hi w A n c B m vs zss)
    (hs : ∀ zs ∈ zss, zs.length ≤ 1000) (hm : m ≤ 1000) (h0 : 0 ≤ k) (h1 : k ≤ 1000) (ht : totL zss ≤ 1000000000) :
    Calls Try.prog 43 #[.agg #[.slice A n c, .slice B m d, .int .i64 key], .int .i64 k] w fun e w' => e = .returned (.int .i64 (k + totL zss)) ∧ OB lo hi w' A n c B m vs (iotas k zss) ∧ MK lo hi w w' := by
  have b0 := bel_alloc w (.cells [.slice A n c, .slice B m d, .int .i64 key].toArray 48)
  have H := Lib.hid h
  have SM := Lib.hid hs
  have hl := h.len
  obtain ⟨A0, n0, c0, v0, X0⟩ := markRow_any (k := k) (r := 0) (by rw [mkd_zero]; exact h.rw.below b0) (by omega) hs h0 h1 ht
  obtain ⟨rfl, rfl, rfl⟩ : A = A0 ∧ n = n0 ∧ c = c0 := by rw [h.head] at v0; simpa using v0
  rw [show k + totL (zss.take 0) = k by simp [totL]] at X0
  obtain ⟨q, hq⟩ : ∃ q : Int, k + totL (zss.take (0 + 1)) = q := ⟨_, rfl⟩
  rw [hq] at X0
  have XX := Lib.hid X0
  have HQ := Lib.hid hq
  have C0 := Cs.new w [.slice A n c, .slice B m d, .int .i64 key] 48
  have q0a := C0.cell 0 rfl
  have q1a := C0.cell 1 rfl
  have q2a := C0.cell 2 rfl
  have lta := C0.1
  clear h hs v0 X0 hq
  go_enter Try.func43, Try.ntmps43
  go_wp2_with fail
  refine XX.out.mono ?_
  rintro e w1 ⟨rfl, R1, m1⟩
  have qa := m1.sl _ _ _ _ _ q1a
  have mk1 := (MK.of_below lo hi b0).trans m1
  have YY := Lib.hid (markBitProofS_h lo hi B m d k q w1 vs zss hl R1 (H.out.hb.mk mk1) SM.out hm h0 h1 ht HQ.out.symm)
  clear q0a q1a q2a R1 m1
  go_wp2_with fail
  refine YY.out.mono ?_
  rintro e w2 ⟨rfl, R2, m2⟩
  have mk2 := mk1.trans m2
  have OO := Lib.hid (show OB lo hi w2 A n c B m vs (iotas k zss) from ⟨R2, H.out.head, H.out.hb.mk mk2, by rw [iotas_length]; exact hl⟩)
  clear R2 m2
  go_wp2_with fail
  go_ret
  exact ⟨rfl, OO.out, mk2⟩
set_option maxHeartbeats 1000000 in
theorem heldBallot_h (lo hi : Nat) (A : Option Addr) (n c : Nat) (B : Option Addr) (m d : Nat) (key k : Int) (w : World) (vs : List Value) (zss : List (List Int)) (hl : zss.length = 1 + m * 3) (h : OB lo hi w A n c B m vs (iotas k zss))
    (hs : ∀ zs ∈ zss, zs.length ≤ 1000) (hm : m ≤ 1000) (h0 : 0 ≤ k) (h1 : k ≤ 1000) (ht : totL zss ≤ 1000000000) :
    Calls Try.prog 44 #[.agg #[.slice A n c, .slice B m d, .int .i64 key], .int .i64 k] w fun e w' => e = .returned (.int .i64 (k + totL zss)) ∧ Below w.heap.size w w' := by
  have b0 := bel_alloc w (.cells [.slice A n c, .slice B m d, .int .i64 key].toArray 48)
  have H := Lib.hid h
  have SM := Lib.hid hs
  obtain ⟨A0, n0, c0, v0, X0⟩ := heldRow_any (r := 0) (h.rw.below b0) (by omega) hs h0 h1 ht
  obtain ⟨rfl, rfl, rfl⟩ : A = A0 ∧ n = n0 ∧ c = c0 := by rw [h.head] at v0; simpa using v0
  rw [show k + totL (zss.take 0) = k by simp [totL]] at X0
  obtain ⟨q, hq⟩ : ∃ q : Int, k + totL (zss.take (0 + 1)) = q := ⟨_, rfl⟩
  have hq0 : 0 ≤ q := by omega
  rw [hq] at X0
  have XX := Lib.hid X0
  have HQ := Lib.hid hq
  have C0 := Cs.new w [.slice A n c, .slice B m d, .int .i64 key] 48
  have q0a := C0.cell 0 rfl
  have q1a := C0.cell 1 rfl
  have q2a := C0.cell 2 rfl
  have lta := C0.1
  clear h hs v0 X0 hq
  go_enter Try.func44, Try.ntmps44
  go_wp2_with fail
  refine XX.out.mono ?_
  rintro e w1 ⟨rfl, b1⟩
  have qa := (MK.of_below 0 0 b1).sl _ _ _ _ _ q1a
  have bb1 := bel_trans b0 b1
  have YY := Lib.hid (heldBitProofS_h lo hi B m d k q w1 vs zss hl (H.out.rw.below bb1) (H.out.hb.mk (MK.of_below 0 0 bb1)) SM.out hm h0 h1 ht HQ.out.symm)
  clear q0a q1a q2a
  go_wp2_with fail
  refine YY.out.mono ?_
  rintro e w2 ⟨rfl, b2⟩
  have bb2 := bel_trans bb1 b2
  obtain ⟨r, hr⟩ : ∃ r : Int, k + totL zss = r := ⟨_, rfl⟩
  have hr0 : 0 ≤ r := by omega
  rw [hr]
  have Hr := Lib.hid hr
  clear hr
  go_wp2_with fail
  go_ret
  exact ⟨ret_int Hr.out.symm, bb2⟩
end Go.Proofs.Ytnjnngnagdhaiaa
