/- RoundsOf and AttackersOf of a valid frame. -/
import Derived.Test.YteejfjgofpolkaaRounds
namespace Go.Proofs.Yteejfjgofpolkaa
set_option linter.unusedVariables false
set_option linter.unusedSimpArgs false
set_option maxRecDepth 100000
open Go.RowKit
theorem roundsOf_ok (n : Nat) (es : List (Nat × Nat)) (ok : FrOk n es) (A : Option Addr) (m c : Nat) (w : World) (h : Rws w A m c (es.map erow)) :
    Calls Try.prog 14 #[.agg #[.int .i64 n, .slice A m c]] w fun e w' => ∃ A' c' F, e = .returned (.tuple #[.slice A' n c', .bool true]) ∧ OwnI w' w.heap.size A' n c' (lst n F) ∧ RFin n (attM es) F ∧ Below w.heap.size w w' := by
  have b0 := bel_alloc w (.cells #[.int .i64 n, .slice A m c] 26)
  have C0 := Cs.new w [.int .i64 n, .slice A m c] 26
  have y0 := C0.cell 0 rfl
  have y1 := C0.cell 1 rfl
  have V := Lib.hid (validFrame_ok n es ok A m c _ (h.below b0))
  have R := Lib.hid (fun (W : World) (hW : Below w.heap.size w W) => rounds_ok n es ok A m c W (h.below hW))
  have HC := Lib.hid C0
  have B0 := Lib.hid b0
  clear ok h C0 b0
  go_enter Try.func14, Try.ntmps14
  go_wp2_with fail
  refine V.out.mono ?_
  rintro e w1 ⟨rfl, b1⟩
  have C1 := HC.out.below b1
  have z0 := C1.cell 0 rfl
  have z1 := C1.cell 1 rfl
  have B1 := Lib.hid (bel_trans B0.out b1)
  clear y0 y1 b1 C1
  go_wp2_with fail
  refine (R.out w1 B1.out).mono ?_
  rintro e w2 ⟨A', c', F, rfl, o, f, b2⟩
  have O := Lib.hid (o.mono (b2 := w.heap.size) B1.out.size)
  have FF := Lib.hid f
  have B2 := Lib.hid (bel_trans B1.out b2)
  clear o f b2
  go_wp2_with fail
  exact bodyPost_ret (v := .tuple #[.slice A' n c', .bool true]) (by simp [results, Try.results14, go_sem]) rfl ⟨A', c', F, rfl, O.out, FF.out, B2.out⟩
theorem isArgument_ok (n : Nat) (es : List (Nat × Nat)) (ok : FrOk n es) (x : Nat) (hx : x < n) (A : Option Addr) (m c : Nat) (w : World) (h : Rws w A m c (es.map erow)) :
    Calls Try.prog 59 #[.agg #[.int .i64 n, .slice A m c], .int .i64 x] w fun e w' => e = .returned (.bool true) ∧ Below w.heap.size w w' := by
  have b0 := bel_alloc w (.cells #[.int .i64 n, .slice A m c] 26)
  have C0 := Cs.new w [.int .i64 n, .slice A m c] 26
  have y0 := C0.cell 0 rfl
  have y1 := C0.cell 1 rfl
  have n10 := ok.n10
  have V := Lib.hid (validFrame_ok n es ok A m c _ (h.below b0))
  have IN := Lib.hid (show inR (x : Int) 0 ((n : Int) - 1) = true from inR_true.2 (by omega))
  have ew : IntKind.i64.wrap ((n : Int) - 1) = (n : Int) - 1 := IntWalk.i64_in _ (by omega)
  have HC := Lib.hid C0
  have B0 := Lib.hid b0
  clear ok h C0 b0
  go_enter Try.func59, Try.ntmps59
  go_wp2_with fail
  refine V.out.mono ?_
  rintro e w1 ⟨rfl, b1⟩
  have C1 := HC.out.below b1
  have z0 := C1.cell 0 rfl
  have z1 := C1.cell 1 rfl
  have B1 := Lib.hid (bel_trans B0.out b1)
  clear y0 y1 b1 C1
  go_wp2_with fail
  refine (within_v IN.out _).mono ?_
  rintro e w2 ⟨rfl, rfl⟩
  go_wp2_with fail
  go_ret
  exact ⟨rfl, B1.out⟩
theorem attackersOf_ok (n : Nat) (es : List (Nat × Nat)) (ok : FrOk n es) (x : Nat) (hx : x < n) (A : Option Addr) (m c : Nat) (w : World) (h : Rws w A m c (es.map erow)) :
    Calls Try.prog 15 #[.agg #[.int .i64 n, .slice A m c], .int .i64 x] w fun e w' => ∃ A' c', e = .returned (.tuple #[.slice A' (bitsTo (attM es x) 10).length c', .bool true]) ∧ OwnI w' w.heap.size A' (bitsTo (attM es x) 10).length c' (bitsTo (attM es x) 10) ∧ Below w.heap.size w w' := by
  have b0 := bel_alloc w (.cells #[.int .i64 n, .slice A m c] 26)
  have C0 := Cs.new w [.int .i64 n, .slice A m c] 26
  have y0 := C0.cell 0 rfl
  have y1 := C0.cell 1 rfl
  have n10 := ok.n10
  have hM := attM_lt (n := 10) (es := es) (fun q hq => by have := (ok.inn q hq).1; omega) x
  have V := Lib.hid (isArgument_ok n es ok x hx A m c _ (h.below b0))
  have R := Lib.hid (fun (W : World) (hW : Below w.heap.size w W) => attackers_ok n es ok A m c W (h.below hW))
  have HC := Lib.hid C0
  have B0 := Lib.hid b0
  have j0 : (0 : Int) ≤ (x : Int) := by omega
  have j1 : (x : Int) < (n : Int) := by omega
  clear ok h C0 b0
  go_enter Try.func15, Try.ntmps15
  go_wp2_with fail
  refine V.out.mono ?_
  rintro e w1 ⟨rfl, b1⟩
  have C1 := HC.out.below b1
  have z0 := C1.cell 0 rfl
  have z1 := C1.cell 1 rfl
  have B1 := Lib.hid (bel_trans B0.out b1)
  clear y0 y1 b1 C1
  go_wp2_with fail
  refine (R.out w1 B1.out).mono ?_
  rintro e w2 ⟨A', c', rfl, o, b2⟩
  obtain ⟨gA, rfl, _, _⟩ := o.form (by omega)
  have q := o.cell (attL_at es hx)
  have B2 := Lib.hid (bel_trans B1.out b2)
  clear o b2
  obtain ⟨M, hMe⟩ : ∃ r, attM es x = r := ⟨_, rfl⟩
  rw [hMe] at q hM
  have HM := Lib.hid hMe
  clear hMe
  go_wp2_with fail
  refine (setOf_any M (by omega) _).mono ?_
  rintro e w3 ⟨A3, c3, rfl, o3, b3⟩
  have O := Lib.hid (o3.mono (b2 := w.heap.size) B2.out.size)
  have B3 := Lib.hid (bel_trans B2.out b3)
  clear o3 b3
  go_wp2_with fail
  exact bodyPost_ret (v := .tuple #[.slice A3 (bitsTo M 10).length c3, .bool true]) (by simp [results, Try.results15, go_sem]) rfl ⟨A3, c3, by rw [HM.out], by rw [HM.out]; exact O.out, B3.out⟩
end Go.Proofs.Yteejfjgofpolkaa
