/- Small numbers in decimal. -/
import Derived.Test.YteehbnanjgmliaaDoorSealWalks
import Derived.Test.YteehbnanjgmliaaDoorCells
import Derived.Deep.QuietTactic
import Derived.BigQuiet
import Derived.Laws.IdiomStrings
namespace Go.Proofs.YteehbnanjgmliaaDoor
set_option linter.unusedVariables false
set_option linter.unusedSimpArgs false
set_option maxRecDepth 100000
open Go.RowKit
/-- A number up to 10 in decimal. -/
def decT : Nat → ByteArray
  | 0 => ⟨#[48]⟩ | 1 => ⟨#[49]⟩ | 2 => ⟨#[50]⟩ | 3 => ⟨#[51]⟩ | 4 => ⟨#[52]⟩ | 5 => ⟨#[53]⟩ | 6 => ⟨#[54]⟩ | 7 => ⟨#[55]⟩ | 8 => ⟨#[56]⟩ | 9 => ⟨#[57]⟩ | _ => ⟨#[49, 48]⟩
theorem conv1 (w : World) (g : Nat) (b : UInt8) (hc : w.cell? ⟨g, 0, none⟩ = some (.int .u8 (b.toNat : Int))) :
    (Go.convert 54 9 (.slice (some ⟨g, 0, none⟩) 1 1)).run Tryd.prog w = .ok (.string ⟨#[b]⟩) w :=
  run_convert_bytes_back w _ _ 5 ⟨g, 0, none⟩ 1 [b] Tryd.underlying54 Tryd.underlying5 Tryd.underlying9 (fun j hj => by
    obtain rfl : j = 0 := by simpa using hj
    exact hc)
theorem conv_new (w : World) (b : UInt8) (z : Int) (hz : z = (b.toNat : Int)) :
    (Go.convert 54 9 (.slice (some ⟨w.heap.size, 0, none⟩) 1 1)).run Tryd.prog (w.alloc (.cells #[.int .u8 z] 5)) = .ok (.string ⟨#[b]⟩) (w.alloc (.cells #[.int .u8 z] 5)) := by
  subst hz
  exact conv1 _ _ b (World.cell?_alloc_at _ _ _ _ rfl)
theorem decimal_0 (w : World) : Calls Tryd.prog 22 #[.int .i64 0] w fun e w' => e = .returned (.string (decT 0)) ∧ w = w' := by
  go_enter Tryd.func22, Tryd.ntmps22
  go_wp2
  go_ret
  exact ⟨rfl, rfl⟩
theorem l01Dec_0 (w : World) : Calls Tryd.prog 19 #[.int .i64 0] w fun e w' => e = .returned (.string (decT 0)) ∧ Below w.heap.size w w' := by
  go_enter Tryd.func19, Tryd.ntmps19
  go_wp2
  go_ret
  exact ⟨rfl, Below.refl _ _⟩
theorem decimal_1 (w : World) : Calls Tryd.prog 22 #[.int .i64 1] w fun e w' => e = .returned (.string (decT 1)) ∧ w = w' := by
  go_enter Tryd.func22, Tryd.ntmps22
  go_wp2
  go_ret
  exact ⟨rfl, rfl⟩
theorem l01Dec_1 (w : World) : Calls Tryd.prog 19 #[.int .i64 1] w fun e w' => e = .returned (.string (decT 1)) ∧ Below w.heap.size w w' := by
  have cv := conv_new w 49 49 rfl
  go_enter Tryd.func19, Tryd.ntmps19
  go_wp2
  go_loopw [3, 4] (fun m s wr => (m = .int .i64 (-1) ∧ s = .string ⟨#[]⟩ ∧ wr = w) ∨ (m = .int .i64 0 ∧ s = .string (decT 1) ∧ Below w.heap.size w wr)) (fun m _ _ => (- intOf m).toNat)
  case atStart => exact .inl ⟨rfl, rfl, rfl⟩
  case round =>
    rcases hrel with ⟨rfl, rfl, rfl⟩ | ⟨rfl, rfl, hb⟩
    · go_wp2
      go_roundw
      case rel => exact .inr ⟨rfl, rfl, bel_alloc _ _⟩
      case measure => simp [intOf]
    · go_wp2
      go_ret
      exact ⟨rfl, hb⟩
theorem decimal_2 (w : World) : Calls Tryd.prog 22 #[.int .i64 2] w fun e w' => e = .returned (.string (decT 2)) ∧ w = w' := by
  go_enter Tryd.func22, Tryd.ntmps22
  go_wp2
  go_ret
  exact ⟨rfl, rfl⟩
theorem l01Dec_2 (w : World) : Calls Tryd.prog 19 #[.int .i64 2] w fun e w' => e = .returned (.string (decT 2)) ∧ Below w.heap.size w w' := by
  have cv := conv_new w 50 50 rfl
  go_enter Tryd.func19, Tryd.ntmps19
  go_wp2
  go_loopw [3, 4] (fun m s wr => (m = .int .i64 (-2) ∧ s = .string ⟨#[]⟩ ∧ wr = w) ∨ (m = .int .i64 0 ∧ s = .string (decT 2) ∧ Below w.heap.size w wr)) (fun m _ _ => (- intOf m).toNat)
  case atStart => exact .inl ⟨rfl, rfl, rfl⟩
  case round =>
    rcases hrel with ⟨rfl, rfl, rfl⟩ | ⟨rfl, rfl, hb⟩
    · go_wp2
      go_roundw
      case rel => exact .inr ⟨rfl, rfl, bel_alloc _ _⟩
      case measure => simp [intOf]
    · go_wp2
      go_ret
      exact ⟨rfl, hb⟩
theorem decimal_3 (w : World) : Calls Tryd.prog 22 #[.int .i64 3] w fun e w' => e = .returned (.string (decT 3)) ∧ w = w' := by
  go_enter Tryd.func22, Tryd.ntmps22
  go_wp2
  go_ret
  exact ⟨rfl, rfl⟩
theorem l01Dec_3 (w : World) : Calls Tryd.prog 19 #[.int .i64 3] w fun e w' => e = .returned (.string (decT 3)) ∧ Below w.heap.size w w' := by
  have cv := conv_new w 51 51 rfl
  go_enter Tryd.func19, Tryd.ntmps19
  go_wp2
  go_loopw [3, 4] (fun m s wr => (m = .int .i64 (-3) ∧ s = .string ⟨#[]⟩ ∧ wr = w) ∨ (m = .int .i64 0 ∧ s = .string (decT 3) ∧ Below w.heap.size w wr)) (fun m _ _ => (- intOf m).toNat)
  case atStart => exact .inl ⟨rfl, rfl, rfl⟩
  case round =>
    rcases hrel with ⟨rfl, rfl, rfl⟩ | ⟨rfl, rfl, hb⟩
    · go_wp2
      go_roundw
      case rel => exact .inr ⟨rfl, rfl, bel_alloc _ _⟩
      case measure => simp [intOf]
    · go_wp2
      go_ret
      exact ⟨rfl, hb⟩
theorem decimal_4 (w : World) : Calls Tryd.prog 22 #[.int .i64 4] w fun e w' => e = .returned (.string (decT 4)) ∧ w = w' := by
  go_enter Tryd.func22, Tryd.ntmps22
  go_wp2
  go_ret
  exact ⟨rfl, rfl⟩
theorem l01Dec_4 (w : World) : Calls Tryd.prog 19 #[.int .i64 4] w fun e w' => e = .returned (.string (decT 4)) ∧ Below w.heap.size w w' := by
  have cv := conv_new w 52 52 rfl
  go_enter Tryd.func19, Tryd.ntmps19
  go_wp2
  go_loopw [3, 4] (fun m s wr => (m = .int .i64 (-4) ∧ s = .string ⟨#[]⟩ ∧ wr = w) ∨ (m = .int .i64 0 ∧ s = .string (decT 4) ∧ Below w.heap.size w wr)) (fun m _ _ => (- intOf m).toNat)
  case atStart => exact .inl ⟨rfl, rfl, rfl⟩
  case round =>
    rcases hrel with ⟨rfl, rfl, rfl⟩ | ⟨rfl, rfl, hb⟩
    · go_wp2
      go_roundw
      case rel => exact .inr ⟨rfl, rfl, bel_alloc _ _⟩
      case measure => simp [intOf]
    · go_wp2
      go_ret
      exact ⟨rfl, hb⟩
theorem decimal_5 (w : World) : Calls Tryd.prog 22 #[.int .i64 5] w fun e w' => e = .returned (.string (decT 5)) ∧ w = w' := by
  go_enter Tryd.func22, Tryd.ntmps22
  go_wp2
  go_ret
  exact ⟨rfl, rfl⟩
theorem l01Dec_5 (w : World) : Calls Tryd.prog 19 #[.int .i64 5] w fun e w' => e = .returned (.string (decT 5)) ∧ Below w.heap.size w w' := by
  have cv := conv_new w 53 53 rfl
  go_enter Tryd.func19, Tryd.ntmps19
  go_wp2
  go_loopw [3, 4] (fun m s wr => (m = .int .i64 (-5) ∧ s = .string ⟨#[]⟩ ∧ wr = w) ∨ (m = .int .i64 0 ∧ s = .string (decT 5) ∧ Below w.heap.size w wr)) (fun m _ _ => (- intOf m).toNat)
  case atStart => exact .inl ⟨rfl, rfl, rfl⟩
  case round =>
    rcases hrel with ⟨rfl, rfl, rfl⟩ | ⟨rfl, rfl, hb⟩
    · go_wp2
      go_roundw
      case rel => exact .inr ⟨rfl, rfl, bel_alloc _ _⟩
      case measure => simp [intOf]
    · go_wp2
      go_ret
      exact ⟨rfl, hb⟩
theorem decimal_6 (w : World) : Calls Tryd.prog 22 #[.int .i64 6] w fun e w' => e = .returned (.string (decT 6)) ∧ w = w' := by
  go_enter Tryd.func22, Tryd.ntmps22
  go_wp2
  go_ret
  exact ⟨rfl, rfl⟩
theorem l01Dec_6 (w : World) : Calls Tryd.prog 19 #[.int .i64 6] w fun e w' => e = .returned (.string (decT 6)) ∧ Below w.heap.size w w' := by
  have cv := conv_new w 54 54 rfl
  go_enter Tryd.func19, Tryd.ntmps19
  go_wp2
  go_loopw [3, 4] (fun m s wr => (m = .int .i64 (-6) ∧ s = .string ⟨#[]⟩ ∧ wr = w) ∨ (m = .int .i64 0 ∧ s = .string (decT 6) ∧ Below w.heap.size w wr)) (fun m _ _ => (- intOf m).toNat)
  case atStart => exact .inl ⟨rfl, rfl, rfl⟩
  case round =>
    rcases hrel with ⟨rfl, rfl, rfl⟩ | ⟨rfl, rfl, hb⟩
    · go_wp2
      go_roundw
      case rel => exact .inr ⟨rfl, rfl, bel_alloc _ _⟩
      case measure => simp [intOf]
    · go_wp2
      go_ret
      exact ⟨rfl, hb⟩
theorem decimal_7 (w : World) : Calls Tryd.prog 22 #[.int .i64 7] w fun e w' => e = .returned (.string (decT 7)) ∧ w = w' := by
  go_enter Tryd.func22, Tryd.ntmps22
  go_wp2
  go_ret
  exact ⟨rfl, rfl⟩
theorem l01Dec_7 (w : World) : Calls Tryd.prog 19 #[.int .i64 7] w fun e w' => e = .returned (.string (decT 7)) ∧ Below w.heap.size w w' := by
  have cv := conv_new w 55 55 rfl
  go_enter Tryd.func19, Tryd.ntmps19
  go_wp2
  go_loopw [3, 4] (fun m s wr => (m = .int .i64 (-7) ∧ s = .string ⟨#[]⟩ ∧ wr = w) ∨ (m = .int .i64 0 ∧ s = .string (decT 7) ∧ Below w.heap.size w wr)) (fun m _ _ => (- intOf m).toNat)
  case atStart => exact .inl ⟨rfl, rfl, rfl⟩
  case round =>
    rcases hrel with ⟨rfl, rfl, rfl⟩ | ⟨rfl, rfl, hb⟩
    · go_wp2
      go_roundw
      case rel => exact .inr ⟨rfl, rfl, bel_alloc _ _⟩
      case measure => simp [intOf]
    · go_wp2
      go_ret
      exact ⟨rfl, hb⟩
theorem decimal_8 (w : World) : Calls Tryd.prog 22 #[.int .i64 8] w fun e w' => e = .returned (.string (decT 8)) ∧ w = w' := by
  go_enter Tryd.func22, Tryd.ntmps22
  go_wp2
  go_ret
  exact ⟨rfl, rfl⟩
theorem l01Dec_8 (w : World) : Calls Tryd.prog 19 #[.int .i64 8] w fun e w' => e = .returned (.string (decT 8)) ∧ Below w.heap.size w w' := by
  have cv := conv_new w 56 56 rfl
  go_enter Tryd.func19, Tryd.ntmps19
  go_wp2
  go_loopw [3, 4] (fun m s wr => (m = .int .i64 (-8) ∧ s = .string ⟨#[]⟩ ∧ wr = w) ∨ (m = .int .i64 0 ∧ s = .string (decT 8) ∧ Below w.heap.size w wr)) (fun m _ _ => (- intOf m).toNat)
  case atStart => exact .inl ⟨rfl, rfl, rfl⟩
  case round =>
    rcases hrel with ⟨rfl, rfl, rfl⟩ | ⟨rfl, rfl, hb⟩
    · go_wp2
      go_roundw
      case rel => exact .inr ⟨rfl, rfl, bel_alloc _ _⟩
      case measure => simp [intOf]
    · go_wp2
      go_ret
      exact ⟨rfl, hb⟩
theorem decimal_9 (w : World) : Calls Tryd.prog 22 #[.int .i64 9] w fun e w' => e = .returned (.string (decT 9)) ∧ w = w' := by
  go_enter Tryd.func22, Tryd.ntmps22
  go_wp2
  go_ret
  exact ⟨rfl, rfl⟩
theorem l01Dec_9 (w : World) : Calls Tryd.prog 19 #[.int .i64 9] w fun e w' => e = .returned (.string (decT 9)) ∧ Below w.heap.size w w' := by
  have cv := conv_new w 57 57 rfl
  go_enter Tryd.func19, Tryd.ntmps19
  go_wp2
  go_loopw [3, 4] (fun m s wr => (m = .int .i64 (-9) ∧ s = .string ⟨#[]⟩ ∧ wr = w) ∨ (m = .int .i64 0 ∧ s = .string (decT 9) ∧ Below w.heap.size w wr)) (fun m _ _ => (- intOf m).toNat)
  case atStart => exact .inl ⟨rfl, rfl, rfl⟩
  case round =>
    rcases hrel with ⟨rfl, rfl, rfl⟩ | ⟨rfl, rfl, hb⟩
    · go_wp2
      go_roundw
      case rel => exact .inr ⟨rfl, rfl, bel_alloc _ _⟩
      case measure => simp [intOf]
    · go_wp2
      go_ret
      exact ⟨rfl, hb⟩
theorem decimal_10 (w : World) : Calls Tryd.prog 22 #[.int .i64 10] w fun e w' => e = .returned (.string (decT 10)) ∧ w = w' := by
  go_enter Tryd.func22, Tryd.ntmps22
  go_wp2
  go_ret
  exact ⟨rfl, rfl⟩
theorem l01Dec_10 (w : World) : Calls Tryd.prog 19 #[.int .i64 10] w fun e w' => e = .returned (.string (decT 10)) ∧ Below w.heap.size w w' := by
  have cv := fun W : World => conv_new W 48 48 rfl
  have cv1 := fun W : World => conv_new W 49 49 rfl
  go_enter Tryd.func19, Tryd.ntmps19
  go_wp2
  go_loopw [3, 4] (fun m s wr => (m = .int .i64 (-10) ∧ s = .string ⟨#[]⟩ ∧ Below w.heap.size w wr) ∨ (m = .int .i64 (-1) ∧ s = .string ⟨#[48]⟩ ∧ Below w.heap.size w wr) ∨ (m = .int .i64 0 ∧ s = .string (decT 10) ∧ Below w.heap.size w wr)) (fun m _ _ => (- intOf m).toNat)
  case atStart => exact .inl ⟨rfl, rfl, Below.refl _ _⟩
  case round =>
    rcases hrel with ⟨rfl, rfl, hb⟩ | ⟨rfl, rfl, hb⟩ | ⟨rfl, rfl, hb⟩
    · have B := Lib.hid (bel_trans hb (bel_alloc wr (.cells #[.int .u8 48] 5)))
      have cw := cv wr
      clear cv cv1
      go_wp2
      go_roundw
      case rel => exact .inr (.inl ⟨rfl, rfl, B.out⟩)
      case measure => simp [intOf]
    · have B := Lib.hid (bel_trans hb (bel_alloc wr (.cells #[.int .u8 49] 5)))
      have cw := cv1 wr
      clear cv cv1
      go_wp2
      go_roundw
      case rel => exact .inr (.inr ⟨rfl, rfl, B.out⟩)
      case measure => simp [intOf]
    · go_wp2
      go_ret
      exact ⟨rfl, hb⟩
theorem decimal_any (k : Nat) (hk : k ≤ 10) (w : World) : Calls Tryd.prog 22 #[.int .i64 k] w fun e w' => e = .returned (.string (decT k)) ∧ w = w' := by
  rcases (show k = 0 ∨ k = 1 ∨ k = 2 ∨ k = 3 ∨ k = 4 ∨ k = 5 ∨ k = 6 ∨ k = 7 ∨ k = 8 ∨ k = 9 ∨ k = 10 by omega) with rfl | rfl | rfl | rfl | rfl | rfl | rfl | rfl | rfl | rfl | rfl
  · exact decimal_0 w
  · exact decimal_1 w
  · exact decimal_2 w
  · exact decimal_3 w
  · exact decimal_4 w
  · exact decimal_5 w
  · exact decimal_6 w
  · exact decimal_7 w
  · exact decimal_8 w
  · exact decimal_9 w
  · exact decimal_10 w
theorem l01Dec_any (k : Nat) (hk : k ≤ 10) (w : World) : Calls Tryd.prog 19 #[.int .i64 k] w fun e w' => e = .returned (.string (decT k)) ∧ Below w.heap.size w w' := by
  rcases (show k = 0 ∨ k = 1 ∨ k = 2 ∨ k = 3 ∨ k = 4 ∨ k = 5 ∨ k = 6 ∨ k = 7 ∨ k = 8 ∨ k = 9 ∨ k = 10 by omega) with rfl | rfl | rfl | rfl | rfl | rfl | rfl | rfl | rfl | rfl | rfl
  · exact l01Dec_0 w
  · exact l01Dec_1 w
  · exact l01Dec_2 w
  · exact l01Dec_3 w
  · exact l01Dec_4 w
  · exact l01Dec_5 w
  · exact l01Dec_6 w
  · exact l01Dec_7 w
  · exact l01Dec_8 w
  · exact l01Dec_9 w
  · exact l01Dec_10 w
end Go.Proofs.YteehbnanjgmliaaDoor
