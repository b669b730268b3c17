/- The laws' marks of texts. -/
import Derived.Test.YtcoladhppbknnaaSealWalks
import Derived.Test.YtcoladhppbknnaaCells
import Derived.Deep.QuietTactic
import Derived.BigQuiet
import Derived.Laws.IdiomStrings
namespace Go.Proofs.Ytcoladhppbknnaa
set_option linter.unusedVariables false
set_option linter.unusedSimpArgs false
set_option maxRecDepth 100000
open Go.RowKit
def digB (k : Nat) : UInt8 := UInt8.ofNat (48 + k % 10)
theorem digB_toNat (k : Nat) : (digB k).toNat = 48 + k % 10 := by
  unfold digB
  rw [UInt8.toNat_ofNat']
  omega
def mtEnd (k : Nat) (out : ByteArray) : ByteArray := if h : k = 0 then out else mtEnd (k / 10) (⟨#[digB k]⟩ ++ out)
termination_by k
decreasing_by omega
def mtX (k : Nat) : ByteArray := ⟨#[109]⟩ ++ mtEnd k ⟨#[]⟩
theorem mtEnd_step {k : Nat} (h : 0 < k) (out : ByteArray) : mtEnd k out = mtEnd (k / 10) (⟨#[digB k]⟩ ++ out) := by
  rw [mtEnd, dif_neg (by omega)]
theorem mtEnd_0 (out : ByteArray) : mtEnd 0 out = out := by rw [mtEnd, dif_pos rfl]
theorem mconv1 (w : World) (g : Nat) (b : UInt8) (hc : w.cell? ⟨g, 0, none⟩ = some (.int .u8 (b.toNat : Int))) :
    (Go.convert 50 9 (.slice (some ⟨g, 0, none⟩) 1 1)).run Try.prog w = .ok (.string ⟨#[b]⟩) w :=
  run_convert_bytes_back w _ _ 5 ⟨g, 0, none⟩ 1 [b] Try.underlying50 Try.underlying5 Try.underlying9 (fun j hj => by
    obtain rfl : j = 0 := by simpa using hj
    exact hc)
theorem mconv_new (w : World) (b : UInt8) (z : Int) (hz : z = (b.toNat : Int)) :
    (Go.convert 50 9 (.slice (some ⟨w.heap.size, 0, none⟩) 1 1)).run Try.prog (w.alloc (.cells #[.int .u8 z] 5)) = .ok (.string ⟨#[b]⟩) (w.alloc (.cells #[.int .u8 z] 5)) := by
  subst hz
  exact mconv1 _ _ b (World.cell?_alloc_at _ _ _ _ rfl)
theorem markText_any (K : Nat) (h1 : 1 ≤ K) (h2 : K ≤ 1048576000) (w : World) : Calls Try.prog 61 #[.int .i64 K] w fun e w' => e = .returned (.string (mtX K)) ∧ Below w.heap.size w w' := by
  have d0 := decide_eq_false (show ¬ (K : Int) ≤ 0 by omega)
  go_enter Try.func61, Try.ntmps61
  go_wp2_with fail
  clear d0
  go_loopw [0, 3] (fun q s wr => ∃ (k : Nat) (out : ByteArray), q = .int .i64 k ∧ s = .string out ∧ out.size + k ≤ K ∧ mtEnd k out = mtEnd K ⟨#[]⟩ ∧ Below w.heap.size w wr) (fun q _ _ => (intOf q).toNat)
  case atStart => exact ⟨K, ⟨#[]⟩, rfl, rfl, Nat.le_of_eq (Nat.zero_add K), rfl, Below.refl _ _⟩
  case round =>
    obtain ⟨k, out, rfl, rfl, hsz, hend, hbel⟩ := hrel
    have HE := Lib.hid hend
    have HB := Lib.hid hbel
    clear hend hbel
    by_cases hk : 0 < k
    · have d1 := decide_eq_true (show (0 : Int) < (k : Int) by omega)
      have cv := mconv_new wr (digB k) (48 + (k : Int) % 10) (by rw [digB_toNat]; omega)
      go_wp2_with fail
      refine ⟨⟨k / 10, _, by go_num, rfl, ?_, by rw [← mtEnd_step hk]; exact HE.out, bel_trans HB.out (bel_alloc _ _)⟩, ?_⟩
      · rw [ByteArray.size_append]
        show 1 + out.size + k / 10 ≤ K
        omega
      · simp [intOf]
        omega
    · obtain rfl : k = 0 := by omega
      have d1 := decide_eq_false (show ¬ (0 : Int) < ((0 : Nat) : Int) by omega)
      have R : Hid (mtX K = ⟨#[109]⟩ ++ out) := by
        show _ = _
        unfold mtX
        rw [← HE.out, mtEnd_0]
      go_wp2_with fail
      go_ret
      exact ⟨by rw [R.out]; rfl, HB.out⟩
end Go.Proofs.Ytcoladhppbknnaa
