/- Folds over the first elements of a list, for the loops' relations. No program. -/
import Derived.Test.YteehbnanjgmliaaDoorBase
import Derived.Deep.QuietTactic
import Derived.BigQuiet
namespace Go.Proofs.YteehbnanjgmliaaDoor
set_option linter.unusedVariables false
open Go.RowKit

/-- What a loop has folded behind k elements. -/
def foldT {α β : Type} (f : β → α → β) (o : β) (l : List α) (k : Nat) : β := (l.take k).foldl f o
theorem foldT_zero {α β : Type} (f : β → α → β) (o : β) (l : List α) : foldT f o l 0 = o := by simp [foldT]
theorem foldT_succ {α β : Type} {f : β → α → β} {o : β} {l : List α} {k : Nat} {z : α} (h : l[k]? = some z) : foldT f o l (k + 1) = f (foldT f o l k) z := by
  rw [foldT, take_snoc' h, List.foldl_append]; rfl
theorem foldT_end {α β : Type} {f : β → α → β} {o : β} {l : List α} {k : Nat} (h : l.length ≤ k) : foldT f o l k = l.foldl f o := by
  rw [foldT, List.take_of_length_le h]
theorem foldl_inv {α β : Type} {f : β → α → β} (P : β → Prop) (hs : ∀ o z, P (f o z)) : ∀ (l : List α) (o : β), P o → P (l.foldl f o) := by
  intro l
  induction l with
  | nil => exact fun o h => h
  | cons a l ih => exact fun o _ => ih _ (hs _ _)
theorem foldT_inv {α β : Type} {f : β → α → β} (P : β → Prop) (hs : ∀ o z, P (f o z)) (l : List α) (o : β) (k : Nat) (h : P o) : P (foldT f o l k) := foldl_inv P hs _ o h
theorem zip_at {xs bs : List Int} {k : Nat} {a b : Int} (h : xs[k]? = some a) (h' : bs[k]? = some b) : (xs.zip bs)[k]? = some (a, b) := by
  rw [List.getElem?_zip_eq_some]; exact ⟨h, h'⟩

/-- A callee that leaves the world alone, met inside a region that draws its order. -/
theorem quiet_left {P : Program} {f : FuncId} {args : Array Value} {w : World} {n : Nat} {v : Value}
    (h : Calls P f args (w.drewN n) fun e w' => e = .returned v ∧ w.drewN n = w') : Calls P f args (w.drewN n) fun e w'' => e = .returned v ∧ ∃ m, w'' = w.drewN m :=
  h.mono fun _ _ ⟨he, hm⟩ => ⟨he, n, hm.symm⟩
theorem quiet_add_left {P : Program} {f : FuncId} {args : Array Value} {w : World} {a n : Nat} {v : Value}
    (h : Calls P f args (w.drewN (a + n)) fun e w' => e = .returned v ∧ w.drewN (a + n) = w') :
    Calls P f args (w.drewN (a + n)) fun e w'' => e = .returned v ∧ ∃ m, w'' = w.drewN (a + m) :=
  h.mono fun _ _ ⟨he, hm⟩ => ⟨he, n, hm.symm⟩
end Go.Proofs.YteehbnanjgmliaaDoor
