/- FnExactIsBallot: for every input that can be read the law returns true and its arguments read as before. The row's step round the walk 'fnExactIsBallot_walk'; no further condition. -/
import Derived.Test.YtnjnngnagdhaiaaIsBalLaw
import Derived.WalkKit
import Derived.ProofKit
import Derived.OpenShut
import Derived.ShutString
import Derived.ChangeOld
import Derived.Below
import Derived.Lib.SmallJoins
namespace Go.Proofs.Ytnjnngnagdhaiaa.fnExactIsBallot
open Go.ChangeShapes Go.WideShapes Go.ChangeAt Go.RowKit
open Go.ChangeMaps (open_string shut_string)
open Go.Joins
set_option linter.unusedVariables false

theorem own : ownKnob Try.prog.godebug = none := by kernel_rfl
theorem laidOut : laidOutB Try.prog = true := by kernel_rfl

set_option maxRecDepth 100000 in
theorem lifted (os : Os) (started : os.Started) (H : Type) (enc : TypeId × Value → H) :
    ReturnsInHanded {} Try.checked os 7 .any (Rows.fnExactIsBallotSpec.pre6 enc Try.prog Try.f7 Rows.fnExactIsBallotRow.domain false) (Rows.fnExactIsBallotSpec.post enc Try.prog Try.f7 false true false false) := by
  refine returnsInHanded_of_change (C := Try.checked) own started (by kernel_rfl) Try.func7
    (ChangeSpec.witness6 (enc := enc) (C := Try.checked) false ⟨#[], #[.agg #[.slice none 0 0, .slice none 0 0, .int .i64 0]], []⟩ 8 (by kernel_rfl) (by kernel_rfl) (by kernel_rfl) (by kernel_rfl)) ?_
  intro W base args ds gs before hval0 hW hcnd _
  have hval : ∀ (j : Nat) t v, Try.f7.params[j]? = some t → args[j]? = some v → Value.okWide Try.prog W .any base t v := hval0
  have hW' := hW
  obtain ⟨p, q, hA0, hV, rfl, hfz, hnd⟩ := hW
  have hA : DataW.TrodAll enc Try.prog W 0 (fun _ => true) true Try.f7.params.toList args.toList ds p := hA0
  rw [Try.params7] at hA hval
  obtain ⟨v0, vs0, d0, ds0, p0, q0, hargs, rfl, rfl, h0, r0⟩ := trodAll_cons hA
  obtain ⟨rfl, rfl, rfl⟩ := trodAll_nil r0
  obtain rfl : args = #[v0] := by cases args; simp_all
  obtain ⟨rfl, rfl⟩ := trodVars_none hV
  have k0 := h0
  have lt0 : ∀ x ∈ p0, x.block < W.heap.size := by obtain ⟨m, hm⟩ := k0; exact DataW.trod_lt m _ _ _ hm
  obtain ⟨x0, y0, u0, X0, Y0, U0, m0, rfl, _, _, hx0, hy0, hu0⟩ := open_agg3 Try.underlying60 (by kernel_rfl) (by kernel_rfl) (hval 0 60 v0 rfl rfl) h0
  obtain ⟨ax0, lenx0, capx0, zx0, ex0, wx0⟩ := ints_of_trod Try.underlying29 Try.underlying2 (by kernel_rfl) hx0
  subst ex0
  obtain ⟨ay0, leny0, capy0, zy0, ey0, wy0⟩ := bps_opened Try.underlying58 Try.underlying35 (by kernel_rfl) rfl rfl rfl (by kernel_rfl) (by kernel_rfl) (by kernel_rfl) Try.underlying29 Try.underlying29 Try.underlying29 Try.underlying2 (by kernel_rfl) hy0
  simp at ey0
  subst ey0
  obtain ⟨key0, ek0, _, wk0⟩ := DataW.trod_int Try.underlying2 hu0
  simp at ek0
  subst ek0
  clear hA0 hval0
  refine (fnExactIsBallot_walk W ax0 lenx0 capx0 zx0 ay0 leny0 capy0 zy0 key0 wx0 wy0).mono fun e W' ⟨he, bel⟩ => ?_
  subst he
  exact ⟨_, rfl, _, _, _, [], _, [], hW', trodAll_mk1 (shut_bool Try.underlying4 _), (trodAll_cons_mk (Below.trod laidOut (by kernel_rfl) (of_decide_eq_true (by kernel_rfl)) k0 bel lt0) trodAll_mk0), rfl, bel.frame _, fun h => by cases h⟩

theorem over : Rows.fnExactIsBallotRow.holds Try.pinned (OpenSpec.ofChange Rows.fnExactIsBallotSpec) :=
  OpenClaim.holds_of_wide 7 Try.f7 rfl rfl rfl rfl rfl rfl rfl ⟨rfl, rfl, rfl, rfl, rfl⟩ rfl rfl rfl rfl rfl (by kernel_rfl) Try.func7 (by kernel_rfl)
    (of_decide_eq_true (by kernel_rfl)) (by unfold Func.isWrapper; rw [if_neg (of_decide_eq_false (by kernel_rfl))]; exact ⟨rfl, rfl⟩)
    (fun os started H enc _ => lifted os started H enc)

/-- The statement. -/
theorem proved : Rows.FnExactIsBallotSaid := over
end Go.Proofs.Ytnjnngnagdhaiaa.fnExactIsBallot
