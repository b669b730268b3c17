/- Contracts of the laws' helpers on slices of int64: copy, compare, mark, held. -/
import Derived.Test.YteehbnanjgmliaaDoorBase
import Derived.Deep.QuietTactic
import Derived.BigQuiet
import Derived.WalkSmall
namespace Go.Proofs.YteehbnanjgmliaaDoor
set_option linter.unusedVariables false
open Go.RowKit Go.Deep
theorem eqInt64S_any (A : Option Addr) (n c : Nat) (zs : List Int) (B : Option Addr) (m d : Nat) (ys : List Int) (w : World) (h : Ints .i64 w A n c zs) (k : Ints .i64 w B m d ys) :
    Calls Tryd.prog 26 #[.slice A n c, .slice B m d] w fun e w' => e = .returned (.bool (decide (zs = ys))) ∧ Below w.heap.size w w' := by
  have hm := h.short
  have hl := Lib.hid h.1
  have kl := Lib.hid k.1
  by_cases hne : n = m
  · subst hne
    go_enter Tryd.func26, Tryd.ntmps26
    go_wp2
    go_loopw [5] (fun i wr => ∃ j : Nat, j ≤ n ∧ i = .int .i64 j ∧ zs.take j = ys.take j ∧ Below w.heap.size w wr) (fun i _ => n - (intOf i).toNat)
    case atStart => exact ⟨0, Nat.zero_le _, rfl, by simp, Below.refl _ _⟩
    case round =>
      obtain ⟨j, hj, rfl, hall, hbel⟩ := hrel
      have H := Lib.hid hall
      clear hall
      by_cases hlt : j < n
      · obtain ⟨b, off, z, rfl, hb, hcell, hz1, hz2, hz⟩ := (h.below hbel).at hlt
        obtain ⟨b', off', y, rfl, hb', hcell', hy1, hy2, hy⟩ := (k.below hbel).at hlt
        cases hzy : (z == y)
        · have hzy' : (z != y) = true := by simp [bne, hzy]
          go_wp2
          go_quiet (fail)
          go_wp2
          go_ret
          refine ⟨ret_bool ?_, below_drewN hbel _⟩
          symm
          simp only [decide_eq_false_iff_not]
          rintro rfl
          have e1 := hz.out
          rw [hy.out] at e1
          simp at e1 hzy
          exact hzy e1.symm
        · have hzy' : (z != y) = false := by simp [bne, hzy]
          go_wp2
          go_quiet (fail)
          go_wp2
          go_roundw
          case rel =>
            refine ⟨j + 1, by omega, by go_num, ?_, below_drewN hbel _⟩
            rw [take_snoc' hz.out, take_snoc' hy.out, H.out]
            simp at hzy
            rw [hzy]
          case measure => simp [intOf]; omega
      · go_wp2
        go_ret
        refine ⟨ret_bool ?_, hbel⟩
        symm
        have := H.out
        rw [List.take_of_length_le (by rw [hl.out]; omega), List.take_of_length_le (by rw [kl.out]; omega)] at this
        simpa using this
  · have hne2 : ((n : Int) != (m : Int)) = true := by simp; omega
    go_enter Tryd.func26, Tryd.ntmps26
    go_wp2
    go_ret
    refine ⟨ret_bool ?_, Below.refl _ _⟩
    symm
    simp only [decide_eq_false_iff_not]
    rintro rfl
    exact hne (hl.out.symm.trans kl.out)
end Go.Proofs.YteehbnanjgmliaaDoor
