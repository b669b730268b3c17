/- Sets as ascending lists; a copy of a list; what the laws' helpers say of lists. (Out of XSetB and XMix.) -/
import Derived.Test.YtefddohjnemdiaaApp
import Derived.Test.YtefddohjnemdiaaFrac
import Derived.Test.YtefddohjnemdiaaMat
import Derived.WalkLawsBesides
import Derived.Lib.SliceRun
namespace Go.Proofs.Ytefddohjnemdiaa
set_option linter.unusedVariables false
set_option linter.unusedSimpArgs false
set_option maxRecDepth 100000
open Go.RowKit
def SetP (zs : List Int) (m : Int) : Prop := (∀ z ∈ zs, 0 ≤ z ∧ z ≤ m - 1) ∧ ∀ (i : Nat) (x y : Int), zs[i]? = some x → zs[i + 1]? = some y → x < y
theorem SetP.nil (m : Int) : SetP [] m := ⟨by simp, by simp⟩
theorem SetP.next {zs : List Int} {m z : Int} {k : Nat} (h : SetP (zs.take k) m) (hz : zs[k]? = some z) (hr : 0 ≤ z ∧ z ≤ m - 1) (hp : ∀ x, 0 < k → zs[k - 1]? = some x → x < z) : SetP (zs.take (k + 1)) m := by
  have hl := (List.getElem?_eq_some_iff.1 hz).1
  rw [take_snoc' hz]
  have hkl : (zs.take k).length = k := by rw [List.length_take]; omega
  refine ⟨fun y hy => ?_, fun i x y hx hy => ?_⟩
  · rcases List.mem_append.1 hy with hy | hy
    · exact h.1 y hy
    · simp at hy; subst hy; exact hr
  · rcases Nat.lt_or_ge (i + 1) k with h1 | h1
    · rw [List.getElem?_append_left (by omega)] at hx hy
      exact h.2 i x y hx hy
    · have hi : i + 1 = k := by
        have := (List.getElem?_eq_some_iff.1 hy).1
        rw [List.length_append, hkl] at this; simp at this; omega
      rw [List.getElem?_append_right (by omega), hkl, hi, Nat.sub_self] at hy
      simp at hy
      subst hy
      rw [List.getElem?_append_left (by omega), List.getElem?_take, if_pos (by omega)] at hx
      exact hp x (by omega) (by rw [← hi]; simpa using hx)
theorem SetP.bad {zs : List Int} {m z : Int} {k : Nat} (h : SetP zs m) (hz : zs[k]? = some z) : (0 ≤ z ∧ z ≤ m - 1) ∧ ∀ x, 0 < k → zs[k - 1]? = some x → x < z :=
  ⟨h.1 z (mem_of_at hz), fun x h0 hx => h.2 (k - 1) x z hx (by rw [Nat.sub_add_cancel h0]; exact hz)⟩
theorem clone64_any (A : Option Addr) (n c : Nat) (zs : List Int) (w : World) (h : Ints .i64 w A n c zs) (hn : n ≤ 1048576) :
    Calls Try.prog 35 #[.slice A n c] w fun e w' => ∃ A' c', e = .returned (.slice A' n c') ∧ OwnI w' w.heap.size A' n c' zs ∧ Below w.heap.size w w' := by
  have NE : ∀ (a : Option Addr) (n c n' c' : Nat) (W : World), (binOp .eql 27 (.slice a n c) (.slice none n' c')).run Try.prog W = .ok (.bool a.isNone) W := fun a n c n' c' W => Lib.run_eql_slice_nil W 27 2 a n c n' c' Try.underlying27
  rcases A with _ | a
  · have h0 : n = 0 := by
      rcases Nat.eq_zero_or_pos n with h0 | h0
      · exact h0
      · obtain ⟨b, off, e, _⟩ := h.2.2.2.2 h0; cases e
    subst h0
    have hz : zs = [] := List.eq_nil_of_length_eq_zero h.1
    subst hz
    go_enter Try.func35, Try.ntmps35
    go_wp2_with fail
    go_ret
    exact ⟨none, 0, rfl, ownI_nil _ _, Below.refl _ _⟩
  · have ho := ownI_lit w
    have hb := bel_alloc w (.cells #[] 2)
    have hi := h.below hb
    have hsz : w.heap.size ≤ (w.alloc (.cells #[] 2)).heap.size := by simp
    go_enter Try.func35, Try.ntmps35
    go_wp2_with (at_builtin; refine app_ints _ rfl _ _ rfl w.heap.size (some ⟨w.heap.size, 0, none⟩) 0 0 [] rfl ho (some a) n c c zs rfl hi (by omega) hn hsz ?_; intro A' c' w1 p1 p2 p3)
    rw [Nat.zero_add] at *
    go_ret
    exact ⟨A', c', rfl, by simpa using p1, (hb.grown p2 hsz (fun k hk => by simp [Value.ownBlock] at hk; omega))⟩
end Go.Proofs.Ytefddohjnemdiaa
