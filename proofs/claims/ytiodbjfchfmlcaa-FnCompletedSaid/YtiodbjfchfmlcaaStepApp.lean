/- append of one number at a step of a region that draws its order. -/
import Derived.Test.YtiodbjfchfmlcaaMat
import Derived.Deep.AppendLies
import Derived.Deep.RegionHeld3
namespace Go.Proofs.Ytiodbjfchfmlcaa
set_option linter.unusedVariables false
open Go.RowKit
theorem step_app_int {ops : Array Oper} {o : Oper} {a : Act} {K : Act → World → Prop} {Q : Exit → Act → World → Prop} {E : Prop} (w : World) (hgd : o.guard = none) (s x : Operand)
    (ho : o.op = .call { callee := .builtin .append, args := #[s, x], argTypes := #[24, 24] }) (base : Nat)
    (A : Option Addr) (n c : Nat) (zs : List Int) (hs : a.eval s = .slice A n c) (hown : OwnI w base A n c zs) (z : Int) (hz : -9223372036854775808 ≤ z) (hz' : z ≤ 9223372036854775807)
    (g0 : Nat) (hx : a.eval x = .slice (some ⟨g0, 0, none⟩) 1 1) (hc : w.cell? ⟨g0, 0, none⟩ = some (.int .i64 z)) (hn : n ≤ 1099511627776) (hbase : base ≤ w.heap.size)
    (h : ∀ A' c' w1, OwnI w1 base A' (n + 1) c' (zs ++ [z]) → w.grownBy w1 (Value.slice A n c).ownBlock → NewBlk w (.slice A n c) (.slice A' (n + 1) c') → K (a.put o.dst (.slice A' (n + 1) c')) w1) :
    if Region.wanted o (yielded ops a.tmps) = true then Oper.wp Try.prog o a w K Q else E := by
  obtain ⟨i0, hi, hz0, hz1, hz2⟩ := info_parts info_int
  refine step_append_lies w hgd s x _ ho base _ i0 _ 1 8 Try.underlying24 hi hz0 hz1 hz2 rfl (by decide) _ n (vals zs) hs hown.1 ⟨g0, 0, none⟩ 1 1 [.int .i64 z] hx rfl ?_ (by simp [Value.oneCell']) (by omega) (by unfold maxLen; omega) (by omega) hbase w.heap.size rfl ?_
  · intro j u hj
    match j, hj with
    | 0, hj => simp at hj; subst hj; rw [Addr.add_lit]; exact hc
  · intro g cap w' h2 h3 h4 h5
    refine h _ _ w' ⟨by rw [vals_snoc]; exact h2, fun y hy => ?_⟩ h3 ?_
    · rcases List.mem_append.1 hy with hy | hy
      · exact hown.2 y hy
      · simp at hy; subst hy; exact WalkArith.wf_i64 ⟨hz, hz'⟩
    · rcases h4 with e | e
      · exact .inl e.symm
      · exact .inr ⟨g, rfl, by omega⟩
end Go.Proofs.Ytiodbjfchfmlcaa
