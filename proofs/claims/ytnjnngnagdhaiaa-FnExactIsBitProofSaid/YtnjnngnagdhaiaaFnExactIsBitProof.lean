/- FnExactIsBitProof: for every input that can be read the law returns true and its arguments read as before. The row's step round the walk 'fnExactIsBitProof_walk'; no further condition. -/
import Derived.Test.YtnjnngnagdhaiaaProofLaw
import Derived.WalkKit
import Derived.ProofKit
import Derived.OpenShut
import Derived.ShutString
import Derived.ChangeOld
import Derived.Below
import Derived.Lib.SmallJoins
namespace Go.Proofs.Ytnjnngnagdhaiaa.fnExactIsBitProof
open Go.ChangeShapes Go.WideShapes Go.ChangeAt Go.RowKit
open Go.ChangeMaps (open_string shut_string)
open Go.Joins
set_option linter.unusedVariables false

theorem own : ownKnob Try.prog.godebug = none := by kernel_rfl
theorem laidOut : laidOutB Try.prog = true := by kernel_rfl

set_option maxRecDepth 100000 in
theorem lifted (os : Os) (started : os.Started) (H : Type) (enc : TypeId × Value → H) :
    ReturnsInHanded {} Try.checked os 4 .any (Rows.fnExactIsBitProofSpec.pre6 enc Try.prog Try.f4 Rows.fnExactIsBitProofRow.domain false) (Rows.fnExactIsBitProofSpec.post enc Try.prog Try.f4 false true false false) := by
  refine returnsInHanded_of_change (C := Try.checked) own started (by kernel_rfl) Try.func4
    (ChangeSpec.witness6 (enc := enc) (C := Try.checked) false ⟨#[], #[.int .i64 0, .agg #[.slice none 0 0, .slice none 0 0, .slice none 0 0]], []⟩ 8 (by kernel_rfl) (by kernel_rfl) (by kernel_rfl) (by kernel_rfl)) ?_
  intro W base args ds gs before hval0 hW hcnd _
  have hval : ∀ (j : Nat) t v, Try.f4.params[j]? = some t → args[j]? = some v → Value.okWide Try.prog W .any base t v := hval0
  have hW' := hW
  obtain ⟨p, q, hA0, hV, rfl, hfz, hnd⟩ := hW
  have hA : DataW.TrodAll enc Try.prog W 0 (fun _ => true) true Try.f4.params.toList args.toList ds p := hA0
  rw [Try.params4] at hA hval
  obtain ⟨v0, vs0, d0, ds0, p0, q0, hargs, rfl, rfl, h0, r0⟩ := trodAll_cons hA
  obtain ⟨v1, vs1, d1, ds1, p1, q1, rfl, rfl, rfl, h1, r1⟩ := trodAll_cons r0
  obtain ⟨rfl, rfl, rfl⟩ := trodAll_nil r1
  obtain rfl : args = #[v0, v1] := by cases args; simp_all
  obtain ⟨rfl, rfl⟩ := trodVars_none hV
  obtain ⟨a0, rfl, rfl, rfl, w0⟩ := open_int Try.underlying2 (hval 0 2 v0 rfl rfl) h0
  have b0 := bounds_i64 w0
  have k1 := h1
  have lt1 : ∀ x ∈ p1, x.block < W.heap.size := by obtain ⟨m, hm⟩ := k1; exact DataW.trod_lt m _ _ _ hm
  obtain ⟨x1, y1, u1, X1, Y1, U1, m1, rfl, _, _, hx1, hy1, hu1⟩ := open_agg3 Try.underlying35 (by kernel_rfl) (by kernel_rfl) (hval 1 35 v1 rfl rfl) h1
  obtain ⟨ax1, lenx1, capx1, zx1, ex1, wx1⟩ : ∃ A n c zs, x1 = .slice A n c ∧ Ints .i64 W A n c zs := by
    rcases open_ints Try.underlying29 Try.underlying2 (by kernel_rfl) hx1 with ⟨hcs, _⟩ | ⟨x, l, c, zs, hcs, _, hl, hm, hz, _, hcell, hwz⟩
    · simp at hcs
      exact ⟨_, _, _, [], hcs, ints_nil _ _⟩
    · simp at hcs
      exact ⟨_, _, _, _, hcs, ints_opened hl hm (by simpa using hz) hcell hwz⟩
  subst ex1
  obtain ⟨ay1, leny1, capy1, zy1, ey1, wy1⟩ : ∃ A n c zs, y1 = .slice A n c ∧ Ints .i64 W A n c zs := by
    rcases open_ints Try.underlying29 Try.underlying2 (by kernel_rfl) hy1 with ⟨hcs, _⟩ | ⟨x, l, c, zs, hcs, _, hl, hm, hz, _, hcell, hwz⟩
    · simp at hcs
      exact ⟨_, _, _, [], hcs, ints_nil _ _⟩
    · simp at hcs
      exact ⟨_, _, _, _, hcs, ints_opened hl hm (by simpa using hz) hcell hwz⟩
  subst ey1
  obtain ⟨au1, lenu1, capu1, zu1, eu1, wu1⟩ : ∃ A n c zs, u1 = .slice A n c ∧ Ints .i64 W A n c zs := by
    rcases open_ints Try.underlying29 Try.underlying2 (by kernel_rfl) hu1 with ⟨hcs, _⟩ | ⟨x, l, c, zs, hcs, _, hl, hm, hz, _, hcell, hwz⟩
    · simp at hcs
      exact ⟨_, _, _, [], hcs, ints_nil _ _⟩
    · simp at hcs
      exact ⟨_, _, _, _, hcs, ints_opened hl hm (by simpa using hz) hcell hwz⟩
  subst eu1
  clear hA0 hval0
  refine (fnExactIsBitProof_walk W a0 b0.1 b0.2 ax1 lenx1 capx1 zx1 ay1 leny1 capy1 zy1 au1 lenu1 capu1 zu1 wx1 wy1 wu1).mono fun e W' ⟨he, bel⟩ => ?_
  subst he
  exact ⟨_, rfl, _, _, _, [], _, [], hW', trodAll_mk1 (shut_bool Try.underlying4 _), (trodAll_cons_mk (shut_int Try.underlying2 w0) (trodAll_cons_mk (Below.trod laidOut (by kernel_rfl) (of_decide_eq_true (by kernel_rfl)) k1 bel lt1) trodAll_mk0)), rfl, bel.frame _, fun h => by cases h⟩

theorem over : Rows.fnExactIsBitProofRow.holds Try.pinned (OpenSpec.ofChange Rows.fnExactIsBitProofSpec) :=
  OpenClaim.holds_of_wide 4 Try.f4 rfl rfl rfl rfl rfl rfl rfl ⟨rfl, rfl, rfl, rfl, rfl⟩ rfl rfl rfl rfl rfl (by kernel_rfl) Try.func4 (by kernel_rfl)
    (of_decide_eq_true (by kernel_rfl)) (by unfold Func.isWrapper; rw [if_neg (of_decide_eq_false (by kernel_rfl))]; exact ⟨rfl, rfl⟩)
    (fun os started H enc _ => lifted os started H enc)

/-- The statement. -/
theorem proved : Rows.FnExactIsBitProofSaid := over
end Go.Proofs.Ytnjnngnagdhaiaa.fnExactIsBitProof
