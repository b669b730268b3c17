/- A step of a drawn region that is passed over. -/
import Derived.Test.YtiodbjfchfmlcaaPhase
namespace Go.Proofs.Ytiodbjfchfmlcaa
set_option linter.unusedVariables false
open Go.RowKit Go.Deep
section
variable {P : Program} {ops : Array Oper} {Q : Exit → Act → World → Prop} {md : Region.Mode} {S : World → Prop}
/-- Passed over: its guard is not fulfilled. -/
theorem anyR_skip {p i : Nat} {oi : Oper} {k : Nat} {l : Array Bool} {a : Act} {w : World} (hi : ops[i]? = some oi)
    (hs : Region.noSelect ops = true) (hf : Region.free md ops l i = true) (hr : (Region.ready md ops l).contains i = true) (hw : waits md ops p i [] = true)
    (hQ : ∀ c a w, Q (.panic c) (a.put oi.dst undef) w → Q (.panic c) a w) (hS : S w) (hy : Region.wanted oi (yielded ops a.tmps) = false)
    (h : anyR P md ops Q (inFirst S p) k (l.setIfInBounds i true) (a.put oi.dst undef) w) : anyR P md ops Q (inFirst S p) (k + 1) l a w :=
  anyR_first (S := S) [] hi (Region.noSelect_spec hs) hQ (fun _ x _ => x) (waits_D hw) (fun j oj w' h1 h2 h3 => waits_spec hw j oj w' h1 h2 h3) k l a w (Region.free_spec hi hf) (fun d hm => by simp at hm) (by simpa using hr) (Or.inr ⟨hy, rfl⟩) hS h
end
end Go.Proofs.Ytiodbjfchfmlcaa
