/- The laws' helpers on strategies. -/
import Derived.Test.YteejfjgofpolkaaFrLaw
namespace Go.Proofs.Yteejfjgofpolkaa
set_option linter.unusedVariables false
set_option linter.unusedSimpArgs false
set_option maxRecDepth 100000
open Go.RowKit
theorem eqStrategy_same (A1 : Option Addr) (c1 : Nat) (B1 : Option Addr) (d1 : Nat) (A2 : Option Addr) (c2 : Nat) (B2 : Option Addr) (d2 : Nat) (n m : Nat) (z1 z2 : List Int) (w : World)
    (h1 : Ints .i64 w A1 n c1 z1) (h2 : Ints .i64 w B1 m d1 z2) (k1 : Ints .i64 w A2 n c2 z1) (k2 : Ints .i64 w B2 m d2 z2) :
    Calls Try.prog 25 #[.agg #[.slice A1 n c1, .slice B1 m d1], .agg #[.slice A2 n c2, .slice B2 m d2]] w fun e w' => e = .returned (.bool true) ∧ Below w.heap.size w w' := by
  have b0 := bel_trans (bel_alloc w (.cells #[.slice A1 n c1, .slice B1 m d1] 39)) (bel_alloc (w.alloc (.cells #[.slice A1 n c1, .slice B1 m d1] 39)) (.cells #[.slice A2 n c2, .slice B2 m d2] 39))
  have C0 := (Cs.new w [.slice A1 n c1, .slice B1 m d1] 39).alloc (.cells #[.slice A2 n c2, .slice B2 m d2] 39)
  have D0 := Cs.new (w.alloc (.cells #[.slice A1 n c1, .slice B1 m d1] 39)) [.slice A2 n c2, .slice B2 m d2] 39
  rw [show (w.alloc (.cells #[.slice A1 n c1, .slice B1 m d1] 39)).heap.size = w.heap.size + 1 by simp] at D0
  have y0 := C0.cell 0 rfl
  have z0 := D0.cell 0 rfl
  have HC := Lib.hid C0
  have HD := Lib.hid D0
  have B0 := Lib.hid b0
  clear C0 D0 b0
  go_enter Try.func25, Try.ntmps25
  go_wp2_with fail
  refine (eqInt64S_any A1 n c1 z1 A2 n c2 z1 _ (h1.below B0.out) (k1.below B0.out)).mono ?_
  rintro e w1 ⟨rfl, u1⟩
  rw [show decide (z1 = z1) = true by simp]
  have B1' := Lib.hid (bel_trans B0.out u1)
  have y1 := (HC.out.below u1).cell 1 rfl
  have z1' := (HD.out.below u1).cell 1 rfl
  clear y0 z0 u1
  go_wp2_with fail
  refine (eqInt64S_any B1 m d1 z2 B2 m d2 z2 _ (h2.below B1'.out) (k2.below B1'.out)).mono ?_
  rintro e w2 ⟨rfl, u2⟩
  rw [show decide (z2 = z2) = true by simp]
  have B2' := Lib.hid (bel_trans B1'.out u2)
  clear u2
  go_wp2_with fail
  go_ret
  exact ⟨rfl, B2'.out⟩
theorem markStrategy_any (lo hi : Nat) (A : Option Addr) (n c : Nat) (zs : List Int) (B : Option Addr) (m d : Nat) (ys : List Int) (k : Int) (w : World) (h1 : IR lo hi w A n c zs) (h2 : IR lo hi w B m d ys) (ap : Apart (.slice A n c) (.slice B m d))
    (hb : hi ≤ w.heap.size) (h0 : 0 ≤ k) (hk : k ≤ 1048576000) (hn : n ≤ 1048576) (hm : m ≤ 1048576) :
    Calls Try.prog 27 #[.agg #[.slice A n c, .slice B m d], .int .i64 k] w fun e w' => e = .returned (.int .i64 (k + n + m)) ∧ IR lo hi w' A n c (iota k n) ∧ IR lo hi w' B m d (iota (k + n) m) ∧ Only lo hi w w' := by
  have b0 := bel_alloc w (.cells #[.slice A n c, .slice B m d] 39)
  have C0 := Lib.hid (Cs.new w [.slice A n c, .slice B m d] 39)
  have y0 := C0.out.cell 0 rfl
  have H1 := Lib.hid (h1.below b0)
  have H2 := Lib.hid (h2.below b0)
  have AP := Lib.hid ap
  have HB := Lib.hid (Only.of_below b0 lo hi)
  clear h1 h2 ap b0
  go_enter Try.func27, Try.ntmps27
  go_wp2_with fail
  refine (markInt64S_any _ A n c zs k _ H1.out.own h0 (by omega) (by omega)).mono ?_
  rintro e w1 ⟨rfl, o1, g1⟩
  have K1 := Lib.hid (show IR lo hi w1 A n c (iota k n) from ⟨o1, H1.out.top⟩)
  have K2 := Lib.hid (show IR lo hi w1 B m d ys from ⟨H2.out.own.kept_apart AP.out.symm g1, H2.out.top⟩)
  have ON := Lib.hid (HB.out.trans (H1.out.own_only g1))
  have y1 := (C0.out.onlyF (H1.out.own_only g1) (.inr hb)).cell 1 rfl
  clear o1 g1 y0
  go_wp2_with fail
  refine (markInt64S_any _ B m d ys _ _ K2.out.own (by omega) (by omega) (by omega)).mono ?_
  rintro e w2 ⟨rfl, o2, g2⟩
  have J1 := Lib.hid (show IR lo hi w2 A n c (iota k n) from ⟨K1.out.own.kept_apart AP.out g2, K1.out.top⟩)
  have J2 := Lib.hid (show IR lo hi w2 B m d (iota (k + n) m) from ⟨o2, K2.out.top⟩)
  have ON2 := Lib.hid (ON.out.trans (K2.out.own_only g2))
  clear o2 g2 y1
  go_wp2_with fail
  go_ret
  exact ⟨rfl, J1.out, J2.out, ON2.out⟩
theorem heldStrategy_any (A : Option Addr) (n c : Nat) (B : Option Addr) (m d : Nat) (k : Int) (w : World) (h1 : Ints .i64 w A n c (iota k n)) (h2 : Ints .i64 w B m d (iota (k + n) m))
    (h0 : 0 ≤ k) (hk : k ≤ 1048576) (hn : n ≤ 1048576) (hm : m ≤ 1048576) :
    Calls Try.prog 32 #[.agg #[.slice A n c, .slice B m d], .int .i64 k] w fun e w' => e = .returned (.int .i64 (k + n + m)) ∧ Below w.heap.size w w' := by
  have b0 := bel_alloc w (.cells #[.slice A n c, .slice B m d] 39)
  have C0 := Lib.hid (Cs.new w [.slice A n c, .slice B m d] 39)
  have y0 := C0.out.cell 0 rfl
  have H1 := Lib.hid (h1.below b0)
  have H2 := Lib.hid (h2.below b0)
  have B0 := Lib.hid b0
  have d1 := decide_eq_false (show ¬ k + (n : Int) < 0 by omega)
  have d2 := decide_eq_false (show ¬ k + (n : Int) + (m : Int) < 0 by omega)
  clear h1 h2 b0
  go_enter Try.func32, Try.ntmps32
  go_wp2_with fail
  refine (heldInt64S_any A n c k _ H1.out h0 (by omega) (by omega)).mono ?_
  rintro e w1 ⟨rfl, u1⟩
  have B1 := Lib.hid (bel_trans B0.out u1)
  have K2 := Lib.hid (H2.out.below u1)
  have y1 := (C0.out.below u1).cell 1 rfl
  clear u1 y0
  go_wp2_with fail
  refine (heldInt64S_any B m d (k + n) _ K2.out (by omega) (by omega) (by omega)).mono ?_
  rintro e w2 ⟨rfl, u2⟩
  have B2 := Lib.hid (bel_trans B1.out u2)
  clear u2 y1
  go_wp2_with fail
  go_ret
  exact ⟨rfl, B2.out⟩
end Go.Proofs.Yteejfjgofpolkaa
