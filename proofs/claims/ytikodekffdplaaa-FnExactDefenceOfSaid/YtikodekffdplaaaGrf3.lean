/- The reference's rounds. -/
import Derived.Test.YtikodekffdplaaaGrf2
import Derived.Test.YtikodekffdplaaaRnd2
namespace Go.Proofs.Ytikodekffdplaaa
set_option linter.unusedVariables false
set_option linter.unusedSimpArgs false
set_option maxRecDepth 100000
open Go.RowKit Go.Deep
theorem l08Has_any (cnt : Int) (x : Int) (rows : List (List Int)) (g : Nat) (A : Option Addr) (m c : Nat) (w : World) (C0 : Cs w g [.int .i64 cnt, .slice A m c]) (h : Rws w A m c rows) :
    Calls Try.prog 44 #[.pointer (some ⟨g, 0, none⟩), .int .i64 x] w fun e w' => e = .returned (.bool (frB cnt rows && inR x 0 (cnt - 1))) ∧ Below w.heap.size w w' := by
  have V := Lib.hid (l08Is_any cnt rows g A m c _ C0 h)
  have HC := Lib.hid C0
  clear h C0
  cases hf : frB cnt rows
  · have HF := Lib.hid hf
    clear hf
    go_enter Try.func44, Try.ntmps44
    go_wp2_with fail
    refine V.out.mono ?_
    rintro e w1 ⟨rfl, b1⟩
    rw [HF.out]
    have B1 := Lib.hid b1
    clear b1
    go_wp2_with fail
    go_ret
    exact ⟨rfl, B1.out⟩
  · obtain ⟨n, es, rfl, rfl, ok⟩ := frB_yes hf
    have n10 := ok.n10
    have HF := Lib.hid hf
    have ew : IntKind.i64.wrap ((n : Int) - 1) = (n : Int) - 1 := IntWalk.i64_in _ (by omega)
    clear hf ok
    go_enter Try.func44, Try.ntmps44
    go_wp2_with fail
    refine V.out.mono ?_
    rintro e w1 ⟨rfl, b1⟩
    rw [HF.out]
    have z0 := (HC.out.below b1).cell 0 rfl
    have B1 := Lib.hid b1
    clear b1
    obtain ⟨v, hv⟩ : ∃ v, inR x 0 ((n : Int) - 1) = v := ⟨_, rfl⟩
    have HV := Lib.hid hv
    clear hv
    go_wp2_with fail
    refine (l00In_w HV.out _).mono ?_
    rintro e w2 ⟨rfl, rfl⟩
    go_wp2_with fail
    go_ret
    exact ⟨by rw [HV.out]; rfl, B1.out⟩
end Go.Proofs.Ytikodekffdplaaa
