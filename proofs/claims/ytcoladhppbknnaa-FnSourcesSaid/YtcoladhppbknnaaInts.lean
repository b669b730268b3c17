/- Contracts of the laws' helpers on slices of int64: copy, compare, mark, held. -/
import Derived.Test.YtcoladhppbknnaaBase
import Derived.Deep.QuietTactic
import Derived.BigQuiet
import Derived.WalkSmall
namespace Go.Proofs.Ytcoladhppbknnaa
set_option linter.unusedVariables false
open Go.RowKit Go.Deep
theorem toInt64S_any (A : Option Addr) (n c : Nat) (zs : List Int) (w : World) (h : Ints .i64 w A n c zs) (hn : n ≤ 1048576) :
    Calls Try.prog 40 #[.slice A n c] w (MadeI zs w) := by
  have hl := Lib.hid h.1
  have hwf := Lib.hid h.2.2.2.1
  have hmk := fun W => run_make_row' (P := Try.prog) 22 2 (.int .i64 0) 8 Try.underlying22 info_int rfl .i64 .i64 n (by omega) (by omega) W
  go_enter Try.func40, Try.ntmps40
  go_wp2
  go_loopw [4] (fun i wr => ∃ k : Nat, k ≤ n ∧ i = .int .i64 k ∧ wr.ownsRow w.heap.size 2 1 (.slice (some ⟨w.heap.size, 0, none⟩) n n) n (vals (zs.take k) ++ List.replicate (n - k) (.int .i64 0)) ∧ Below w.heap.size w wr) (fun i _ => n - (intOf i).toNat)
  case atStart =>
    refine ⟨0, Nat.zero_le _, rfl, ?_, bel_alloc _ _⟩
    have := World.ownsRow_lit (base := w.heap.size) (e := 2) (size := 1) w (madeCells #[.int .i64 0] n) n (Nat.le_refl _) (by unfold maxLen; omega) (by simp [size_madeCells])
    rw [toList_madeCells_one] at this
    simpa [vals] using this
  case round =>
    obtain ⟨k, hk, rfl, hown, hbel⟩ := hrel
    by_cases hlt : k < n
    · obtain ⟨b, off, z, rfl, hb, hcell, hz1, hz2, hz⟩ := (h.below hbel).at hlt
      have hb' : b < w.heap.size := by
        obtain ⟨b', off', e, hb', _⟩ := h.2.2.2.2 (by omega)
        simp at e; omega
      have hfr : wr.frozen? ⟨w.heap.size, k, none⟩ = false := hown.frozenAt k
      have hset := Lib.hid (hown.stored k (.int .i64 z))
      obtain ⟨u, hu⟩ : ∃ u, wr.cell? ⟨w.heap.size, k, none⟩ = some u := by
        rw [hown.cellAt k (by omega)]
        have hlen := hown.1
        exact ⟨_, List.getElem?_eq_getElem (by omega)⟩
      have Hown := Lib.hid hown
      clear hown
      go_wp2
      go_roundw
      case rel => exact ⟨k + 1, by omega, by go_num, by have := hset.out.1; rwa [set_step hz.out hlt] at this, hbel.setCell (Nat.le_refl _) _⟩
      case measure => simp [intOf]; omega
    · have Hown := Lib.hid hown
      clear hown
      go_wp2
      go_ret
      have hk' : k = n := by omega
      subst hk'
      have e1 : zs.length = k := hl.out
      refine ⟨some ⟨w.heap.size, 0, none⟩, k, by rw [e1]; rfl, ⟨?_, hwf.out⟩, hbel⟩
      have := Hown.out
      rw [List.take_of_length_le (by omega), Nat.sub_self] at this
      rw [e1]; simpa using this
theorem eqInt64S_any (A : Option Addr) (n c : Nat) (zs : List Int) (B : Option Addr) (m d : Nat) (ys : List Int) (w : World) (h : Ints .i64 w A n c zs) (k : Ints .i64 w B m d ys) :
    Calls Try.prog 47 #[.slice A n c, .slice B m d] w fun e w' => e = .returned (.bool (decide (zs = ys))) ∧ Below w.heap.size w w' := by
  have hm := h.short
  have hl := Lib.hid h.1
  have kl := Lib.hid k.1
  by_cases hne : n = m
  · subst hne
    go_enter Try.func47, Try.ntmps47
    go_wp2
    go_loopw [5] (fun i wr => ∃ j : Nat, j ≤ n ∧ i = .int .i64 j ∧ zs.take j = ys.take j ∧ Below w.heap.size w wr) (fun i _ => n - (intOf i).toNat)
    case atStart => exact ⟨0, Nat.zero_le _, rfl, by simp, Below.refl _ _⟩
    case round =>
      obtain ⟨j, hj, rfl, hall, hbel⟩ := hrel
      have H := Lib.hid hall
      clear hall
      by_cases hlt : j < n
      · obtain ⟨b, off, z, rfl, hb, hcell, hz1, hz2, hz⟩ := (h.below hbel).at hlt
        obtain ⟨b', off', y, rfl, hb', hcell', hy1, hy2, hy⟩ := (k.below hbel).at hlt
        cases hzy : (z == y)
        · have hzy' : (z != y) = true := by simp [bne, hzy]
          go_wp2
          go_quiet (fail)
          go_wp2
          go_ret
          refine ⟨ret_bool ?_, below_drewN hbel _⟩
          symm
          simp only [decide_eq_false_iff_not]
          rintro rfl
          have e1 := hz.out
          rw [hy.out] at e1
          simp at e1 hzy
          exact hzy e1.symm
        · have hzy' : (z != y) = false := by simp [bne, hzy]
          go_wp2
          go_quiet (fail)
          go_wp2
          go_roundw
          case rel =>
            refine ⟨j + 1, by omega, by go_num, ?_, below_drewN hbel _⟩
            rw [take_snoc' hz.out, take_snoc' hy.out, H.out]
            simp at hzy
            rw [hzy]
          case measure => simp [intOf]; omega
      · go_wp2
        go_ret
        refine ⟨ret_bool ?_, hbel⟩
        symm
        have := H.out
        rw [List.take_of_length_le (by rw [hl.out]; omega), List.take_of_length_le (by rw [kl.out]; omega)] at this
        simpa using this
  · have hne2 : ((n : Int) != (m : Int)) = true := by simp; omega
    go_enter Try.func47, Try.ntmps47
    go_wp2
    go_ret
    refine ⟨ret_bool ?_, Below.refl _ _⟩
    symm
    simp only [decide_eq_false_iff_not]
    rintro rfl
    exact hne (hl.out.symm.trans kl.out)
end Go.Proofs.Ytcoladhppbknnaa
