/- A set as a list. -/
import Derived.Test.YteejfjgofpolkaaGrf
namespace Go.Proofs.Yteejfjgofpolkaa
set_option linter.unusedVariables false
set_option linter.unusedSimpArgs false
set_option maxRecDepth 100000
open Go.RowKit Go.Deep
theorem l08List_ok (m : Nat) (hm : m < 1024) (w : World) :
    Calls Try.prog 81 #[.int .i64 m] w fun e w' => ∃ A c, e = .returned (.slice A (bitsTo m 10).length c) ∧ OwnI w' w.heap.size A (bitsTo m 10).length c (bitsTo m 10) ∧ Below w.heap.size w w' := by
  have O0 := Lib.hid (ownI_lit w)
  have B0 := Lib.hid (bel_alloc w (.cells #[] 2))
  go_enter Try.func81, Try.ntmps81
  go_wp2_with fail
  go_loopw [3, 4] (fun s t wr => ∃ (i : Nat) (A : Option Addr) (c : Nat), i ≤ 10 ∧ t = .int .i64 i ∧ s = .slice A (bitsTo m i).length c ∧ OwnI wr w.heap.size A (bitsTo m i).length c (bitsTo m i) ∧ Below w.heap.size w wr) (fun _ t _ => 10 - (intOf t).toNat)
  case atStart => exact ⟨0, _, _, Nat.zero_le _, rfl, rfl, O0.out, B0.out⟩
  case round =>
    obtain ⟨i, A, c, hi, rfl, rfl, hO, hB⟩ := hrel
    have HO := Lib.hid hO
    have HB := Lib.hid hB
    clear hO hB O0 B0
    have hl := bitsTo_len m i
    have hs := HB.out.size
    by_cases h10 : i < 10
    · have hd : decide ((i : Int) < 10) = true := decide_eq_true (by omega)
      obtain ⟨v, hv⟩ : ∃ v, m.testBit i = v := ⟨_, rfl⟩
      have HV := Lib.hid hv
      have BS := bitsTo_succ m i
      rw [hv] at BS
      clear hv
      go_wp2_with fail
      refine (l08In_v HV.out hm (by omega) _).mono ?_
      rintro e w1 ⟨rfl, rfl⟩
      cases v
      · have E := Lib.hid (show bitsTo m (i + 1) = bitsTo m i by rw [BS]; simp)
        clear BS
        go_wp2_with fail
        go_roundw
        case rel => exact ⟨i + 1, A, c, by omega, by go_num, by rw [E.out], by rw [E.out]; exact HO.out, HB.out⟩
        case measure => simp [intOf]; omega
      · have E := Lib.hid (show bitsTo m (i + 1) = bitsTo m i ++ [(i : Int)] by rw [BS]; simp)
        clear BS
        go_wp2_with (at_builtin; refine app_int_at wr rfl _ _ rfl w.heap.size A (bitsTo m i).length c (bitsTo m i) rfl HO.out (i : Int) (by omega) (by omega) rfl (by omega) hs ?_; intro A7 c7 w7 p1 p2 p3; have P1 := Lib.hid p1; have B7 := Lib.hid (HB.out.grown p2 hs (fun x hx => (HO.out.block x hx).1)); clear p1 p2 p3)
        go_roundw
        case rel => exact ⟨i + 1, A7, c7, by omega, by go_num, by rw [E.out]; simp, by rw [E.out]; simpa using P1.out, B7.out⟩
        case measure => simp [intOf]; omega
    · obtain rfl : i = 10 := by omega
      go_wp2_with fail
      go_ret
      exact ⟨A, c, rfl, HO.out, HB.out⟩
end Go.Proofs.Yteejfjgofpolkaa
