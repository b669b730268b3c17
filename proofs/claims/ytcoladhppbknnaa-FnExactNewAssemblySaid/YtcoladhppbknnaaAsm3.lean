/- The laws' helpers on assemblies without acts and motions. -/
import Derived.Test.YtcoladhppbknnaaAsm2
import Derived.Test.YtcoladhppbknnaaMkT
namespace Go.Proofs.Ytcoladhppbknnaa
set_option linter.unusedVariables false
set_option linter.unusedSimpArgs false
set_option maxRecDepth 100000
open Go.RowKit Go.Deep
theorem eqInt64S_zero (X : Option Addr) (c : Nat) (Y : Option Addr) (d : Nat) (w : World) : Calls Try.prog 47 #[.slice X 0 c, .slice Y 0 d] w fun e w' => e = .returned (.bool true) ∧ w = w' := by
  go_enter Try.func47, Try.ntmps47
  go_wp2_with fail
  go_loop [5] (fun i => i = .int .i64 0) (fun _ => 0)
  case atStart => rfl
  case round =>
    subst hrel
    go_wp2_with fail
    go_ret
    exact ⟨rfl, rfl⟩
theorem markInt64S_zero (X : Option Addr) (c : Nat) (k : Int) (w : World) : Calls Try.prog 101 #[.slice X 0 c, .int .i64 k] w fun e w' => e = .returned (.int .i64 k) ∧ w = w' := by
  go_enter Try.func101, Try.ntmps101
  go_wp2_with fail
  go_loop [1, 5] (fun q i => q = .int .i64 k ∧ i = .int .i64 0) (fun _ _ => 0)
  case atStart => exact ⟨rfl, rfl⟩
  case round =>
    obtain ⟨rfl, rfl⟩ := hrel
    go_wp2_with fail
    go_ret
    exact ⟨rfl, rfl⟩
theorem heldInt64S_zero (X : Option Addr) (c : Nat) (k : Int) (w : World) : Calls Try.prog 103 #[.slice X 0 c, .int .i64 k] w fun e w' => e = .returned (.int .i64 k) ∧ w = w' := by
  go_enter Try.func103, Try.ntmps103
  go_wp2_with fail
  go_loop [1, 5] (fun q i => q = .int .i64 k ∧ i = .int .i64 0) (fun _ _ => 0)
  case atStart => exact ⟨rfl, rfl⟩
  case round =>
    obtain ⟨rfl, rfl⟩ := hrel
    go_wp2_with fail
    go_ret
    exact ⟨rfl, rfl⟩
theorem emp_at {t base : Nat} {w : World} {A : Option Addr} {n c : Nat} {trs : List (List Value)} (h : OwnR t 1 w base A n c trs) (he : ∀ r ∈ trs, ∃ X c', r = [.slice X 0 c']) {j : Nat} (hj : j < n) :
    ∃ g X c', A = some ⟨g, 0, none⟩ ∧ g < w.heap.size ∧ w.cell? ⟨g, j, none⟩ = some (.slice X 0 c') := by
  obtain ⟨g, rfl, _, hg⟩ := h.form (by omega)
  have hl : j < trs.length := by rw [h.2.1]; exact hj
  obtain ⟨r, hr⟩ : ∃ r, trs[j]? = some r := ⟨_, List.getElem?_eq_getElem hl⟩
  obtain ⟨X, c', rfl⟩ := he r (List.mem_of_getElem? hr)
  have := h.cell (i := 0) hr rfl
  rw [Nat.mul_one, Nat.add_zero] at this
  exact ⟨g, X, c', rfl, hg, this⟩
theorem eqInt64SS_emp {t b1 b2 : Nat} (A : Option Addr) (M c : Nat) (trs : List (List Value)) (B : Option Addr) (d : Nat) (urs : List (List Value)) (w : World) (h : OwnR t 1 w b1 A M c trs) (he : ∀ r ∈ trs, ∃ X c', r = [.slice X 0 c']) (k : OwnR t 1 w b2 B M d urs) (ke : ∀ r ∈ urs, ∃ X c', r = [.slice X 0 c']) :
    Calls Try.prog 57 #[.slice A M c, .slice B M d] w fun x w' => x = .returned (.bool true) ∧ Below w.heap.size w w' := by
  have H := Lib.hid h
  have K := Lib.hid k
  have HE := Lib.hid he
  have KE := Lib.hid ke
  have m64 : M ≤ 9223372036854775807 := by have := h.cap; unfold maxLen at this; omega
  clear h k he ke
  go_enter Try.func57, Try.ntmps57
  go_wp2_with fail
  go_loopw [5] (fun i wr => ∃ k : Nat, k ≤ M ∧ i = .int .i64 k ∧ Below w.heap.size w wr) (fun i _ => M - (intOf i).toNat)
  case atStart => exact ⟨0, Nat.zero_le _, rfl, Below.refl _ _⟩
  case round =>
    obtain ⟨j, hj, rfl, hbel⟩ := hrel
    have HB := Lib.hid hbel
    clear hbel
    by_cases hlt : j < M
    · have d0 := decide_eq_true (show (j : Int) < (M : Int) by omega)
      have k0 : (0 : Int) ≤ (j : Int) := by omega
      have k1 : (j : Int) < (M : Int) := by omega
      obtain ⟨g1, X1, c1, rfl, hb1, y1⟩ := emp_at (H.out.below HB.out) HE.out hlt
      obtain ⟨g2, X2, c2, rfl, hb2, y2⟩ := emp_at (K.out.below HB.out) KE.out hlt
      go_wp2_with fail
      refine wp_region_noPanic ?_
      refine wp_region_R (inFirst (fun W => Below wr.heap.size wr W ∧ W.cell? ⟨g1, j, none⟩ = some (.slice X1 0 c1) ∧ W.cell? ⟨g2, j, none⟩ = some (.slice X2 0 c2)) 10) (by kernel_rfl) ?_
      have SS := Lib.hid (fun (W : World) (hW : Below wr.heap.size wr W) => (show Below wr.heap.size wr W ∧ W.cell? ⟨g1, j, none⟩ = some (.slice X1 0 c1) ∧ W.cell? ⟨g2, j, none⟩ = some (.slice X2 0 c2) from ⟨hW, (hW.cell (p := ⟨g1, j, none⟩) hb1).trans y1, (hW.cell (p := ⟨g2, j, none⟩) hb2).trans y2⟩))
      have hS := SS.out wr.drew ⟨rfl, rfl, rfl, Nat.le_refl _, fun _ _ => rfl⟩
      refine anyR_take (i := 0) (.slice (some ⟨g1, 0, none⟩) M c) rfl (by kernel_rfl) (by kernel_rfl) (by kernel_rfl) (by kernel_rfl) (fun _ _ _ h => h) (by assumption) ⟨by rfl, ?_⟩ ?_
      · intro W hW
        go_simp
      try simp only [Act.put, List.setIfInBounds_toArray, List.set_cons_zero, List.set_cons_succ, List.getElem_toArray, List.getElem_cons_zero, List.getElem_cons_succ]
      refine anyR_take (i := 1) (.int .i64 j) rfl (by kernel_rfl) (by kernel_rfl) (by kernel_rfl) (by kernel_rfl) (fun _ _ _ h => h) (by assumption) ⟨by rfl, ?_⟩ ?_
      · intro W hW
        go_simp
      try simp only [Act.put, List.setIfInBounds_toArray, List.set_cons_zero, List.set_cons_succ, List.getElem_toArray, List.getElem_cons_zero, List.getElem_cons_succ]
      refine anyR_take (i := 2) (.pointer (some ⟨g1, j, none⟩)) rfl (by kernel_rfl) (by kernel_rfl) (by kernel_rfl) (by kernel_rfl) (fun _ _ _ h => h) (by assumption) ⟨by rfl, ?_⟩ ?_
      · intro W hW
        go_simp
      try simp only [Act.put, List.setIfInBounds_toArray, List.set_cons_zero, List.set_cons_succ, List.getElem_toArray, List.getElem_cons_zero, List.getElem_cons_succ]
      refine anyR_take (i := 3) (.slice X1 0 c1) rfl (by kernel_rfl) (by kernel_rfl) (by kernel_rfl) (by kernel_rfl) (fun _ _ _ h => h) (by assumption) ⟨by rfl, ?_⟩ ?_
      · intro W hW
        go_simp
      try simp only [Act.put, List.setIfInBounds_toArray, List.set_cons_zero, List.set_cons_succ, List.getElem_toArray, List.getElem_cons_zero, List.getElem_cons_succ]
      refine anyR_take (i := 4) (.slice (some ⟨g2, 0, none⟩) M d) rfl (by kernel_rfl) (by kernel_rfl) (by kernel_rfl) (by kernel_rfl) (fun _ _ _ h => h) (by assumption) ⟨by rfl, ?_⟩ ?_
      · intro W hW
        go_simp
      try simp only [Act.put, List.setIfInBounds_toArray, List.set_cons_zero, List.set_cons_succ, List.getElem_toArray, List.getElem_cons_zero, List.getElem_cons_succ]
      refine anyR_take (i := 5) (.int .i64 j) rfl (by kernel_rfl) (by kernel_rfl) (by kernel_rfl) (by kernel_rfl) (fun _ _ _ h => h) (by assumption) ⟨by rfl, ?_⟩ ?_
      · intro W hW
        go_simp
      try simp only [Act.put, List.setIfInBounds_toArray, List.set_cons_zero, List.set_cons_succ, List.getElem_toArray, List.getElem_cons_zero, List.getElem_cons_succ]
      refine anyR_take (i := 6) (.pointer (some ⟨g2, j, none⟩)) rfl (by kernel_rfl) (by kernel_rfl) (by kernel_rfl) (by kernel_rfl) (fun _ _ _ h => h) (by assumption) ⟨by rfl, ?_⟩ ?_
      · intro W hW
        go_simp
      try simp only [Act.put, List.setIfInBounds_toArray, List.set_cons_zero, List.set_cons_succ, List.getElem_toArray, List.getElem_cons_zero, List.getElem_cons_succ]
      refine anyR_take (i := 7) (.slice X2 0 c2) rfl (by kernel_rfl) (by kernel_rfl) (by kernel_rfl) (by kernel_rfl) (fun _ _ _ h => h) (by assumption) ⟨by rfl, ?_⟩ ?_
      · intro W hW
        go_simp
      try simp only [Act.put, List.setIfInBounds_toArray, List.set_cons_zero, List.set_cons_succ, List.getElem_toArray, List.getElem_cons_zero, List.getElem_cons_succ]
      refine anyR_one (i := 8) (by kernel_rfl) rfl ?_
      intro K hK
      go_simp
      go_at_call 47
      refine (eqInt64S_zero X1 c1 X2 c2 _).mono ?_
      rintro x w9 ⟨rfl, rfl⟩
      refine hK.out _ _ (fun _ => hS) ?_
      clear hK K
      try simp only [Act.put, List.setIfInBounds_toArray, List.set_cons_zero, List.set_cons_succ, List.getElem_toArray, List.getElem_cons_zero, List.getElem_cons_succ]
      refine anyR_take (i := 9) (.bool false) rfl (by kernel_rfl) (by kernel_rfl) (by kernel_rfl) (by kernel_rfl) (fun _ _ _ h => h) (by assumption) ⟨by rfl, ?_⟩ ?_
      · intro W hW
        go_simp
      try simp only [Act.put, List.setIfInBounds_toArray, List.set_cons_zero, List.set_cons_succ, List.getElem_toArray, List.getElem_cons_zero, List.getElem_cons_succ]
      refine anyR_done (by kernel_rfl) ?_ _
      refine NoPanic.normal ?_
      have BU := Lib.hid hS.1
      clear hS SS
      go_wp2_with fail
      go_roundw
      case rel => exact ⟨j + 1, by omega, by go_num, bel_trans HB.out BU.out⟩
      case measure => simp [intOf]; omega
    · obtain rfl : M = j := by omega
      have d0 := decide_eq_false (show ¬ (M : Int) < (M : Int) by omega)
      go_wp2_with fail
      go_ret
      exact ⟨rfl, HB.out⟩
theorem markInt64SS_emp {t b1 : Nat} (A : Option Addr) (M c : Nat) (trs : List (List Value)) (k : Int) (w : World) (h : OwnR t 1 w b1 A M c trs) (he : ∀ r ∈ trs, ∃ X c', r = [.slice X 0 c']) :
    Calls Try.prog 62 #[.slice A M c, .int .i64 k] w fun x w' => x = .returned (.int .i64 k) ∧ w = w' := by
  have H := Lib.hid h
  have HE := Lib.hid he
  have m64 : M ≤ 9223372036854775807 := by have := h.cap; unfold maxLen at this; omega
  clear h he
  go_enter Try.func62, Try.ntmps62
  go_wp2_with fail
  go_loop [1, 5] (fun q i => ∃ j : Nat, j ≤ M ∧ i = .int .i64 j ∧ q = .int .i64 k) (fun _ i => M - (intOf i).toNat)
  case atStart => exact ⟨0, Nat.zero_le _, rfl, rfl⟩
  case round =>
    obtain ⟨j, hj, rfl, rfl⟩ := hrel
    by_cases hlt : j < M
    · have d0 := decide_eq_true (show (j : Int) < (M : Int) by omega)
      obtain ⟨g1, X1, c1, rfl, hb1, y1⟩ := emp_at H.out HE.out hlt
      go_wp2_with fail
      refine (markInt64S_zero X1 c1 k _).mono ?_
      rintro e w1 ⟨rfl, rfl⟩
      go_wp2_with fail
      go_round
      case rel => exact ⟨j + 1, by omega, by go_num, rfl⟩
      case measure => simp [intOf]; omega
    · obtain rfl : M = j := by omega
      have d0 := decide_eq_false (show ¬ (M : Int) < (M : Int) by omega)
      go_wp2_with fail
      go_ret
      exact ⟨rfl, rfl⟩
theorem heldInt64SS_emp {t b1 : Nat} (A : Option Addr) (M c : Nat) (trs : List (List Value)) (k : Int) (h0 : 0 ≤ k) (w : World) (h : OwnR t 1 w b1 A M c trs) (he : ∀ r ∈ trs, ∃ X c', r = [.slice X 0 c']) :
    Calls Try.prog 65 #[.slice A M c, .int .i64 k] w fun x w' => x = .returned (.int .i64 k) ∧ w = w' := by
  have H := Lib.hid h
  have HE := Lib.hid he
  have m64 : M ≤ 9223372036854775807 := by have := h.cap; unfold maxLen at this; omega
  have dk := decide_eq_false (show ¬ k < 0 by omega)
  clear h he
  go_enter Try.func65, Try.ntmps65
  go_wp2_with fail
  go_loop [1, 5] (fun q i => ∃ j : Nat, j ≤ M ∧ i = .int .i64 j ∧ q = .int .i64 k) (fun _ i => M - (intOf i).toNat)
  case atStart => exact ⟨0, Nat.zero_le _, rfl, rfl⟩
  case round =>
    obtain ⟨j, hj, rfl, rfl⟩ := hrel
    by_cases hlt : j < M
    · have d0 := decide_eq_true (show (j : Int) < (M : Int) by omega)
      obtain ⟨g1, X1, c1, rfl, hb1, y1⟩ := emp_at H.out HE.out hlt
      go_wp2_with fail
      refine (heldInt64S_zero X1 c1 k _).mono ?_
      rintro e w1 ⟨rfl, rfl⟩
      go_wp2_with fail
      go_round
      case rel => exact ⟨j + 1, by omega, by go_num, rfl⟩
      case measure => simp [intOf]; omega
    · obtain rfl : M = j := by omega
      have d0 := decide_eq_false (show ¬ (M : Int) < (M : Int) by omega)
      go_wp2_with fail
      go_ret
      exact ⟨rfl, rfl⟩
theorem eqActS_none (w : World) : Calls Try.prog 58 #[.slice none 0 0, .slice none 0 0] w fun e w' => e = .returned (.bool true) ∧ w = w' := by
  go_enter Try.func58, Try.ntmps58
  go_wp2_with fail
  go_loop [5] (fun i => i = .int .i64 0) (fun _ => 0)
  case atStart => rfl
  case round =>
    subst hrel
    go_wp2_with fail
    go_ret
    exact ⟨rfl, rfl⟩
theorem eqMotionS_none (w : World) : Calls Try.prog 59 #[.slice none 0 0, .slice none 0 0] w fun e w' => e = .returned (.bool true) ∧ w = w' := by
  go_enter Try.func59, Try.ntmps59
  go_wp2_with fail
  go_loop [5] (fun i => i = .int .i64 0) (fun _ => 0)
  case atStart => rfl
  case round =>
    subst hrel
    go_wp2_with fail
    go_ret
    exact ⟨rfl, rfl⟩
theorem markActS_none (k : Int) (w : World) : Calls Try.prog 63 #[.slice none 0 0, .int .i64 k] w fun e w' => e = .returned (.int .i64 k) ∧ w = w' := by
  go_enter Try.func63, Try.ntmps63
  go_wp2_with fail
  go_loop [1, 5] (fun q i => q = .int .i64 k ∧ i = .int .i64 0) (fun _ _ => 0)
  case atStart => exact ⟨rfl, rfl⟩
  case round =>
    obtain ⟨rfl, rfl⟩ := hrel
    go_wp2_with fail
    go_ret
    exact ⟨rfl, rfl⟩
theorem markMotionS_none (k : Int) (w : World) : Calls Try.prog 64 #[.slice none 0 0, .int .i64 k] w fun e w' => e = .returned (.int .i64 k) ∧ w = w' := by
  go_enter Try.func64, Try.ntmps64
  go_wp2_with fail
  go_loop [1, 5] (fun q i => q = .int .i64 k ∧ i = .int .i64 0) (fun _ _ => 0)
  case atStart => exact ⟨rfl, rfl⟩
  case round =>
    obtain ⟨rfl, rfl⟩ := hrel
    go_wp2_with fail
    go_ret
    exact ⟨rfl, rfl⟩
theorem heldActS_none (k : Int) (w : World) : Calls Try.prog 67 #[.slice none 0 0, .int .i64 k] w fun e w' => e = .returned (.int .i64 k) ∧ w = w' := by
  go_enter Try.func67, Try.ntmps67
  go_wp2_with fail
  go_loop [1, 5] (fun q i => q = .int .i64 k ∧ i = .int .i64 0) (fun _ _ => 0)
  case atStart => exact ⟨rfl, rfl⟩
  case round =>
    obtain ⟨rfl, rfl⟩ := hrel
    go_wp2_with fail
    go_ret
    exact ⟨rfl, rfl⟩
theorem heldMotionS_none (k : Int) (w : World) : Calls Try.prog 68 #[.slice none 0 0, .int .i64 k] w fun e w' => e = .returned (.int .i64 k) ∧ w = w' := by
  go_enter Try.func68, Try.ntmps68
  go_wp2_with fail
  go_loop [1, 5] (fun q i => q = .int .i64 k ∧ i = .int .i64 0) (fun _ _ => 0)
  case atStart => exact ⟨rfl, rfl⟩
  case round =>
    obtain ⟨rfl, rfl⟩ := hrel
    go_wp2_with fail
    go_ret
    exact ⟨rfl, rfl⟩
end Go.Proofs.Ytcoladhppbknnaa
