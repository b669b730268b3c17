/- The lists of three exponents. -/
import Derived.Test.YtnjnngnagdhaiaaRws
import Derived.Test.YtnjnngnagdhaiaaAreAll
namespace Go.Proofs.Ytnjnngnagdhaiaa
set_option linter.unusedVariables false
open Go.RowKit
def rowsE (kss : List (List Int)) : Bool := kss.all fun l => allB l 3 expB
theorem l09ListsE_any (B : Option Addr) (m d : Nat) (kss : List (List Int)) (q : Int) (w : World) (h : Rws w B m d kss) :
    Calls Try.prog 82 #[.slice B m d, .int .i64 q] w fun e w' => e = .returned (.bool (rowsE kss && ((m : Int) == q))) ∧ w = w' := by
  have hm := h.short
  have hl := Lib.hid h.1
  go_enter Try.func82, Try.ntmps82
  go_wp2_with fail
  go_loop [5] (fun i => ∃ k : Nat, k ≤ m ∧ i = .int .i64 k ∧ rowsE (kss.take k) = true) (fun i => m - (intOf i).toNat)
  case atStart => exact ⟨0, Nat.zero_le _, rfl, rfl⟩
  case round =>
    obtain ⟨k, hk, rfl, hall⟩ := hrel
    have H := Lib.hid hall
    clear hall
    by_cases hlt : k < m
    · obtain ⟨b, off, A', n', c', zs, rfl, hb, hcell, hi, hz⟩ := h.at hlt
      have EX := Lib.hid (l09Exponents_any A' n' c' zs 3 w hi)
      clear hi
      cases hp : allB zs 3 expB
      · have HP := Lib.hid hp
        clear hp
        go_wp2_with fail
        refine EX.out.mono ?_
        rintro e w1 ⟨rfl, rfl⟩
        rw [HP.out]
        go_wp2_with fail
        go_ret
        exact ⟨ret_bool (by rw [show rowsE kss = false from all_stop hz.out HP.out]; rfl), rfl⟩
      · have HP := Lib.hid hp
        clear hp
        go_wp2_with fail
        refine EX.out.mono ?_
        rintro e w1 ⟨rfl, rfl⟩
        rw [HP.out]
        go_wp2_with fail
        go_round
        case rel => exact ⟨k + 1, by omega, by go_num, all_next (p := fun l => allB l 3 expB) hz.out H.out HP.out⟩
        case measure => simp [intOf]; omega
    · have HA : Hid (rowsE kss = true) := all_end (p := fun l => allB l 3 expB) (by rw [hl.out]; omega) H.out
      go_wp2_with fail
      go_ret
      exact ⟨ret_bool (by rw [HA.out]; rfl), rfl⟩
end Go.Proofs.Ytnjnngnagdhaiaa
