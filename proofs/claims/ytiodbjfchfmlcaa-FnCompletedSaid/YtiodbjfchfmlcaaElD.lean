/- Drawn elections. -/
import Derived.Test.YtiodbjfchfmlcaaFrs
import Derived.Test.YtiodbjfchfmlcaaB10
import Derived.Deep.Cut
import Derived.Deep.CutRange
namespace Go.Proofs.Ytiodbjfchfmlcaa
set_option linter.unusedVariables false
set_option linter.unusedSimpArgs false
set_option maxRecDepth 100000
open Go.RowKit Go.Deep
theorem gr_app' {a b c : World} {row r2 : Option Nat} (h : a.grownBy b row) (k : b.grownBy c r2) (hr : ∀ x, r2 = some x → a.heap.size ≤ x) : a.grownBy c row :=
  ⟨k.os.trans h.os, k.tape.trans h.tape, k.output.trans h.output, Nat.le_trans h.size k.size, fun i hi hne => (k.block i (Nat.lt_of_lt_of_le hi h.size) (fun e => by have := hr i e.symm; omega)).trans (h.block i hi hne)⟩
theorem gr_bel' {a b c : World} {row : Option Nat} (h : a.grownBy b row) (k : Below b.heap.size b c) : a.grownBy c row :=
  gr_app' (r2 := none) h ⟨k.os, k.tape, k.output, k.size, fun i hi _ => k.block i hi⟩ (by simp)
theorem gr_set' {a b : World} {row : Option Nat} (h : a.grownBy b row) {g : Nat} (hg : a.heap.size ≤ g) (j : Nat) (u : Value) : a.grownBy (b.setCell ⟨g, j, none⟩ u) row :=
  gr_app' h (grown_set b g j u) (fun x hx => by injection hx with hx; omega)
theorem blk_ne {v : Value} {base g : Nat} (h : ∀ x, v.ownBlock = some x → base ≤ x) (hg : g < base) : v.ownBlock = none ∨ v.ownBlock ≠ some g := by
  cases hv : v.ownBlock with
  | none => exact .inl rfl
  | some x => exact .inr (fun e => by injection e with e; have := h x hv; omega)
/-- What the drawing of an election keeps. -/
structure DE (w0 : World) (g : Nat) (An : Option Addr) (nn cn : Nat) (bs : List Int) (G ge : Nat) (mon : Int) (CA : Option Addr) (m cc : Nat) (cs : List Int) (AA : Option Addr) (n ac : Nat) (vs : List Value) (zss : List (List Int)) (w : World) (k : Nat) : Prop where
  gG : g < w0.heap.size
  wG : w0.heap.size ≤ G
  Ge : G < ge
  src : Src w g An nn cn bs k
  gr : w0.grownBy w (some g)
  cg : Cs w G [.int .i64 0, .slice none 0 0, .slice none 0 0]
  ce : Cs w ge [.int .i64 mon, .slice CA m cc, .slice AA n ac]
  co : OwnI w (ge + 1) CA m cc cs
  ao : OwnM w (ge + 1) AA n ac vs zss
section
variable {w0 : World} {g : Nat} {An : Option Addr} {nn cn : Nat} {bs : List Int} {G ge : Nat} {mon : Int} {CA : Option Addr} {m cc : Nat} {cs : List Int} {AA : Option Addr} {n ac : Nat} {vs : List Value} {zss : List (List Int)} {w w' : World} {k k' : Nat}
theorem DE.low (h : DE w0 g An nn cn bs G ge mon CA m cc cs AA n ac vs zss w k) (hs : Src w' g An nn cn bs k') (hg : w.grownBy w' (some g)) : DE w0 g An nn cn bs G ge mon CA m cc cs AA n ac vs zss w' k' := by
  have h1 := h.gG
  have h2 := h.wG
  have h3 := h.Ge
  exact ⟨h1, h2, h3, hs, grown_trans h.gr hg, h.cg.kept hg (by intro e; injection e with e; omega), h.ce.kept hg (by intro e; injection e with e; omega), h.co.kept hg (blk_ne (fun x hx => (h.co.block x hx).1) (by omega)), h.ao.kept_out hg (fun r hr => by injection hr with hr; omega)⟩
theorem DE.below (h : DE w0 g An nn cn bs G ge mon CA m cc cs AA n ac vs zss w k) (hb : Below w.heap.size w w') : DE w0 g An nn cn bs G ge mon CA m cc cs AA n ac vs zss w' k :=
  ⟨h.gG, h.wG, h.Ge, h.src.kept hb, gr_bel' h.gr hb, h.cg.below hb, h.ce.below hb, h.co.below hb, h.ao.below hb⟩
theorem DE.setm (h : DE w0 g An nn cn bs G ge mon CA m cc cs AA n ac vs zss w k) (z : Int) : DE w0 g An nn cn bs G ge z CA m cc cs AA n ac vs zss (w.setCell ⟨ge, 0, none⟩ (.int .i64 z)) k := by
  have h1 := h.gG
  have h2 := h.wG
  have h3 := h.Ge
  have hg := grown_set w ge 0 (.int .i64 z)
  exact ⟨h1, h2, h3, h.src.grown hg (fun x hx => by injection hx with hx; omega), gr_set' h.gr (by omega) _ _, h.cg.kept hg (by intro e; injection e with e; omega), h.ce.set 0 _ (by simp), h.co.kept hg (blk_ne (fun x hx => (h.co.block x hx).1) (by omega)), h.ao.kept_out hg (fun r hr => by injection hr with hr; omega)⟩
/-- A cost appended, and stored. -/
theorem DE.cost (h : DE w0 g An nn cn bs G ge mon CA m cc cs none 0 0 [] [] w k) {CA' : Option Addr} {m' cc' : Nat} {cs' : List Int} (p1 : OwnI w' (ge + 1) CA' m' cc' cs') (p2 : w.grownBy w' (Value.slice CA m cc).ownBlock) :
    DE w0 g An nn cn bs G ge mon CA' m' cc' cs' none 0 0 [] [] (w'.setCell ⟨ge, 1, none⟩ (.slice CA' m' cc')) k ∧ Cs w' ge [.int .i64 mon, .slice CA m cc, .slice none 0 0] := by
  have h1 := h.gG
  have h2 := h.wG
  have h3 := h.Ge
  have ne : ∀ x, x ≤ ge → some x ≠ (Value.slice CA m cc).ownBlock := fun x hx e => by have := (h.co.block x e.symm).1; omega
  have ce := h.ce.kept p2 (ne ge (Nat.le_refl _))
  have cg := h.cg.kept p2 (ne G (by omega))
  have hg := grown_set w' ge 1 (.slice CA' m' cc')
  refine ⟨⟨h1, h2, h3, (h.src.grown p2 (fun x hx => by have := (h.co.block x hx).1; omega)).grown hg (fun x hx => by injection hx with hx; omega), gr_set' (gr_app' h.gr p2 (fun x hx => by have := (h.co.block x hx).1; omega)) (by omega) _ _, cg.kept hg (by intro e; injection e with e; omega), ce.set 1 _ (by simp), p1.kept hg (blk_ne (fun x hx => (p1.block x hx).1) (by omega)), ?_⟩, ce⟩
  exact ⟨World.ownsRow_nil _ _ _ _, rfl, by simp, .nil⟩
/-- A list of approvals appended, and stored. -/
theorem DE.appr (h : DE w0 g An nn cn bs G ge mon CA m cc cs AA n ac vs zss w k) {AA' : Option Addr} {n' ac' : Nat} {vs' : List Value} {zss' : List (List Int)} (p1 : OwnM w' (ge + 1) AA' n' ac' vs' zss') (p2 : w.grownBy w' (Value.slice AA n ac).ownBlock) :
    DE w0 g An nn cn bs G ge mon CA m cc cs AA' n' ac' vs' zss' (w'.setCell ⟨ge, 2, none⟩ (.slice AA' n' ac')) k ∧ Cs w' ge [.int .i64 mon, .slice CA m cc, .slice AA n ac] := by
  have h1 := h.gG
  have h2 := h.wG
  have h3 := h.Ge
  have ne : ∀ x, x ≤ ge → some x ≠ (Value.slice AA n ac).ownBlock := fun x hx e => by have := (h.ao.block x e.symm).1; omega
  have ce := h.ce.kept p2 (ne ge (Nat.le_refl _))
  have cg := h.cg.kept p2 (ne G (by omega))
  have hg := grown_set w' ge 2 (.slice AA' n' ac')
  have co := h.co.kept p2 (own_ne h.co.1 h.ao.outer (by decide))
  exact ⟨⟨h1, h2, h3, (h.src.grown p2 (fun x hx => by have := (h.ao.block x hx).1; omega)).grown hg (fun x hx => by injection hx with hx; omega), gr_set' (gr_app' h.gr p2 (fun x hx => by have := (h.ao.block x hx).1; omega)) (by omega) _ _, cg.kept hg (by intro e; injection e with e; omega), ce.set 2 _ (by simp), co.kept hg (blk_ne (fun x hx => (co.block x hx).1) (by omega)), p1.kept_out hg (fun r hr => by injection hr with hr; omega)⟩, ce⟩
end
end Go.Proofs.Ytiodbjfchfmlcaa
