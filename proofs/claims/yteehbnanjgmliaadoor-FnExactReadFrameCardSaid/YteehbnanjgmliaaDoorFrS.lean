/- l08Is of every frame; isArgument and l08Has. -/
import Derived.Test.YteehbnanjgmliaaDoorFrV
namespace Go.Proofs.YteehbnanjgmliaaDoor
set_option linter.unusedVariables false
set_option linter.unusedSimpArgs false
set_option maxRecDepth 100000
open Go.RowKit
theorem l00In_w {n a b : Int} {v : Bool} (h : inR n a b = v) (w : World) : Calls Tryd.prog 18 #[.int .i64 n, .int .i64 a, .int .i64 b] w fun e w' => e = .returned (.bool v) ∧ w = w' := by subst h; exact l00In_any n a b w
theorem cmp2_at {u v x y : Int} (hu : 0 ≤ u ∧ u ≤ 9) (hv : 0 ≤ v ∧ v ≤ 9) (hx : 0 ≤ x ∧ x ≤ 9) (hy : 0 ≤ y ∧ y ≤ 9) : decide (cmp2 u v x y < 0) = !decide (x * 10 + y ≤ u * 10 + v) := by
  have : cmp2 u v x y < 0 ↔ ¬ x * 10 + y ≤ u * 10 + v := by
    unfold cmp2
    by_cases h1 : u < x
    · rw [if_pos h1]; omega
    · by_cases h2 : x < u
      · rw [if_neg h1, if_pos h2]; omega
      · by_cases h3 : v < y
        · rw [if_neg h1, if_neg h2, if_pos h3]; omega
        · rw [if_neg h1, if_neg h2, if_neg h3]; split <;> omega
  by_cases h : x * 10 + y ≤ u * 10 + v
  · rw [decide_eq_false (fun hh => this.1 hh h), decide_eq_true h]; rfl
  · rw [decide_eq_true (this.2 h), decide_eq_false h]; rfl
/-- The number of the last row. -/
def LastIs (rows : List (List Int)) (i : Nat) (last : Int) : Prop := (i = 0 ∧ last = -1) ∨ ∃ k u v, i = k + 1 ∧ rows[k]? = some [u, v] ∧ last = u * 10 + v ∧ (0 ≤ u ∧ u ≤ 9) ∧ 0 ≤ v ∧ v ≤ 9
theorem LastIs.bd {rows : List (List Int)} {i : Nat} {last : Int} (h : LastIs rows i last) : -1 ≤ last ∧ last ≤ 99 := by
  rcases h with ⟨_, h⟩ | ⟨k, u, v, _, _, h, hu, hv⟩ <;> omega
theorem LastIs.row {rows : List (List Int)} {i : Nat} {last cnt x y : Int} (h : LastIs rows i last) (hr : rows[i]? = some [x, y]) (hp : rowP cnt [x, y] = true) (hx : 0 ≤ x ∧ x ≤ 9) (hy : 0 ≤ y ∧ y ≤ 9) : rowC cnt rows i = !decide (x * 10 + y ≤ last) := by
  rcases h with ⟨rfl, rfl⟩ | ⟨k, u, v, rfl, hk, rfl, hu, hv⟩
  · unfold rowC
    rw [getD_row hr, hp]
    have : ¬ x * 10 + y ≤ -1 := by omega
    simp [this]
  · unfold rowC lexB
    rw [show k + 1 - 1 = k by omega, getD_row hr, getD_row hk, hp]
    simpa using cmp2_at hu hv hx hy
set_option maxHeartbeats 4000000 in
theorem l08Is_any (cnt : Int) (rows : List (List Int)) (g : Nat) (A : Option Addr) (m c : Nat) (w : World) (C0 : Cs w g [.int .i64 cnt, .slice A m c]) (h : Rws w A m c rows) :
    Calls Tryd.prog 9 #[.pointer (some ⟨g, 0, none⟩)] w fun e w' => e = .returned (.bool (frB cnt rows)) ∧ Below w.heap.size w w' := by
  have y0 := C0.cell 0 rfl
  have y1 := C0.cell 1 rfl
  have hm := h.short
  have HL := Lib.hid h.1
  cases hin : inR cnt 0 10
  · have HIN := Lib.hid hin
    have R := Lib.hid (show frB cnt rows = false by unfold frB; rw [hin]; simp)
    clear hin
    go_enter Tryd.func9, Tryd.ntmps9
    go_wp2_with fail
    refine (l00In_w HIN.out _).mono ?_
    rintro e w' ⟨rfl, rfl⟩
    go_wp2_with fail
    go_ret
    exact ⟨ret_bool R.out.symm, Below.refl _ _⟩
  · have HIN := Lib.hid hin
    have bc := inR_true.1 hin
    have ew : IntKind.i64.wrap (cnt - 1) = cnt - 1 := IntWalk.i64_in _ (by omega)
    have C1 := Lib.hid C0
    clear hin
    go_enter Tryd.func9, Tryd.ntmps9
    go_wp2_with fail
    refine (l00In_w HIN.out _).mono ?_
    rintro e w' ⟨rfl, rfl⟩
    go_wp2_with fail
    clear y0 y1
    go_loopw [3, 4] (fun tl t wr => ∃ (i : Nat) (last : Int), i ≤ m ∧ t = .int .i64 i ∧ tl = .int .i64 last ∧ LastIs rows i last ∧ rowsC cnt rows i = true ∧ Below w.heap.size w wr) (fun _ t _ => m - (intOf t).toNat)
    case atStart => exact ⟨0, -1, Nat.zero_le _, rfl, rfl, .inl ⟨rfl, rfl⟩, rfl, Below.refl _ _⟩
    case round =>
      obtain ⟨i, last, hi, rfl, rfl, hla, hall, hbel⟩ := hrel
      have HA := Lib.hid hall
      have HB := Lib.hid hbel
      have LA := Lib.hid hla
      have lbd := hla.bd
      have CR := Lib.hid (C1.out.below hbel)
      have y0 := CR.out.cell 0 rfl
      have y1 := CR.out.cell 1 rfl
      clear hbel hall hla
      by_cases hlt : i < m
      · obtain ⟨b, off, l, Ai, ci, rfl, hb, hl, hc, ip⟩ := row_at (h.below HB.out) hlt
        have hdi : decide ((i : Int) < (m : Int)) = true := by simp; omega
        have hir : i < rows.length := by rw [HL.out]; exact hlt
        by_cases h2 : l.length = 2
        · match l, h2 with
          | [x, y], _ =>
            obtain ⟨bA, oA, rfl, hbA, hcA⟩ := ip.2.2.2.2 (by simp)
            have a0 := hcA 0 x rfl
            have a1 := hcA 1 y rfl
            rw [Nat.add_zero] at a0
            have RP := rowP_two (cnt := cnt) (x := x) (y := y)
            rw [ew] at RP
            have RC := Lib.hid (fun hp => frB_no (cnt := cnt) hir (rowC_row hl hp))
            have HRow := Lib.hid hl
            have hl2 : [x, y].length = 2 := rfl
            rw [hl2] at hc
            clear hcA ip hl
            cases e1 : inR x 0 (cnt - 1)
            · have W0 := Lib.hid e1
              have R := Lib.hid (RC.out (by rw [RP, e1]; rfl))
              clear e1 RP
              go_wp2_with fail
              go_quiet ((go_at_call 18; exact quiet_left (l00In_w (v := _) (by first | exact W0.out | exact W0.out) _)))
              go_wp2_with fail
              go_ret
              exact ⟨ret_bool R.out.symm, below_drewN HB.out _⟩
            · cases e2 : inR y 0 (cnt - 1)
              · have W0 := Lib.hid e1
                have W1 := Lib.hid e2
                have R := Lib.hid (RC.out (by rw [RP, e1, e2]; rfl))
                clear e1 e2 RP
                go_wp2_with fail
                go_quiet ((go_at_call 18; exact quiet_left (l00In_w (v := _) (by first | exact W0.out | exact W1.out) _)))
                go_wp2_with fail
                go_ret
                exact ⟨ret_bool R.out.symm, below_drewN HB.out _⟩
              · have W0 := Lib.hid e1
                have W1 := Lib.hid e2
                have bx := inR_true.1 e1
                have by_ := inR_true.1 e2
                have ew1 : IntKind.i64.wrap (x * 10) = x * 10 := IntWalk.i64_in _ (by omega)
                have ew2 : IntKind.i64.wrap (x * 10 + y) = x * 10 + y := IntWalk.i64_in _ (by omega)
                have RK := Lib.hid (LA.out.row (cnt := cnt) HRow.out (by rw [RP, e1, e2]; rfl) (by omega) (by omega))
                clear e1 e2 RP
                by_cases hle : x * 10 + y ≤ last
                · have hd := decide_eq_true hle
                  have R := Lib.hid (frB_no (cnt := cnt) hir (by rw [RK.out, hd]; rfl))
                  clear hle
                  go_wp2_with fail
                  go_quiet ((go_at_call 18; exact quiet_left (l00In_w (v := _) (by first | exact W0.out | exact W1.out) _)))
                  go_wp2_with fail
                  go_quiet (fail)
                  go_wp2_with fail
                  go_ret
                  exact ⟨ret_bool R.out.symm, below_drewN HB.out _⟩
                · have hd := decide_eq_false hle
                  have NX := Lib.hid (show rowsC cnt rows (i + 1) = true by rw [rowsC_succ, HA.out, RK.out, hd]; rfl)
                  have LN : Hid (LastIs rows (i + 1) (x * 10 + y)) := .inr ⟨i, x, y, rfl, HRow.out, rfl, by omega, by omega⟩
                  clear hle
                  go_wp2_with fail
                  go_quiet ((go_at_call 18; exact quiet_left (l00In_w (v := _) (by first | exact W0.out | exact W1.out) _)))
                  go_wp2_with fail
                  go_quiet (fail)
                  go_wp2_with fail
                  go_roundw
                  case rel => exact ⟨i + 1, x * 10 + y, by omega, by go_num, rfl, LN.out, NX.out, below_drewN HB.out _⟩
                  case measure => simp [intOf]; omega
        · have R := Lib.hid (frB_no (cnt := cnt) hir (rowC_row hl (rowP_len h2)))
          have hq : ((l.length : Int) != 2) = true := by simp; omega
          clear hl ip
          go_wp2_with fail
          go_quiet (fail)
          go_wp2_with fail
          go_ret
          exact ⟨ret_bool R.out.symm, below_drewN HB.out _⟩
      · have hdi : decide ((i : Int) < (m : Int)) = false := by simp; omega
        have R := Lib.hid (show frB cnt rows = true by
          unfold frB
          rw [HL.out, show m = i by omega, HA.out, HIN.out]; rfl)
        go_wp2_with fail
        go_ret
        exact ⟨ret_bool R.out.symm, HB.out⟩
end Go.Proofs.YteehbnanjgmliaaDoor
