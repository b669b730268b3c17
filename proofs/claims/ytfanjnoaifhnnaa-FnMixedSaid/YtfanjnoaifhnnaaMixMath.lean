/- The plain law of mixes: an order has each number below its length exactly if it is a set of them when sorted. No program. -/
import Derived.Test.YtfanjnoaifhnnaaRwsLaw
import Derived.Test.YtfanjnoaifhnnaaAreAll
namespace Go.Proofs.Ytfanjnoaifhnnaa
set_option linter.unusedVariables false
open Go.RowKit
def SetP (zs : List Int) (m : Int) : Prop := (∀ z ∈ zs, 0 ≤ z ∧ z ≤ m - 1) ∧ ∀ (i : Nat) (x y : Int), zs[i]? = some x → zs[i + 1]? = some y → x < y
theorem SetP.nil (m : Int) : SetP [] m := ⟨by simp, by simp⟩
theorem SetP.next {zs : List Int} {m z : Int} {k : Nat} (h : SetP (zs.take k) m) (hz : zs[k]? = some z) (hr : 0 ≤ z ∧ z ≤ m - 1) (hp : ∀ x, 0 < k → zs[k - 1]? = some x → x < z) : SetP (zs.take (k + 1)) m := by
  have hl := (List.getElem?_eq_some_iff.1 hz).1
  rw [take_snoc' hz]
  have hkl : (zs.take k).length = k := by rw [List.length_take]; omega
  refine ⟨fun y hy => ?_, fun i x y hx hy => ?_⟩
  · rcases List.mem_append.1 hy with hy | hy
    · exact h.1 y hy
    · simp at hy; subst hy; exact hr
  · rcases Nat.lt_or_ge (i + 1) k with h1 | h1
    · rw [List.getElem?_append_left (by omega)] at hx hy
      exact h.2 i x y hx hy
    · have hi : i + 1 = k := by
        have := (List.getElem?_eq_some_iff.1 hy).1
        rw [List.length_append, hkl] at this; simp at this; omega
      rw [List.getElem?_append_right (by omega), hkl, hi, Nat.sub_self] at hy
      simp at hy
      subst hy
      rw [List.getElem?_append_left (by omega), List.getElem?_take, if_pos (by omega)] at hx
      exact hp x (by omega) (by rw [← hi]; simpa using hx)
theorem SetP.bad {zs : List Int} {m z : Int} {k : Nat} (h : SetP zs m) (hz : zs[k]? = some z) : (0 ≤ z ∧ z ≤ m - 1) ∧ ∀ x, 0 < k → zs[k - 1]? = some x → x < z :=
  ⟨h.1 z (mem_of_at hz), fun x h0 hx => h.2 (k - 1) x z hx (by rw [Nat.sub_add_cancel h0]; exact hz)⟩
theorem SetP.ge {zs : List Int} {m : Int} (h : SetP zs m) : ∀ (i : Nat) (x : Int), zs[i]? = some x → (i : Int) ≤ x := by
  intro i
  induction i with
  | zero => intro x hx; have := (h.1 x (mem_of_at hx)).1; omega
  | succ i ih =>
    intro x hx
    have hl := (List.getElem?_eq_some_iff.1 hx).1
    have e : zs[i]? = some zs[i] := List.getElem?_eq_getElem (by omega)
    have h1 := ih _ e
    have h2 := h.2 i _ x e hx
    omega
theorem SetP.le {zs : List Int} {m : Nat} (h : SetP zs m) (hl : zs.length = m) : ∀ (d i : Nat) (x : Int), i + d + 1 = m → zs[i]? = some x → x ≤ i := by
  intro d
  induction d with
  | zero => intro i x hi hx; have := (h.1 x (mem_of_at hx)).2; omega
  | succ d ih =>
    intro i x hi hx
    have e : zs[i + 1]? = some (zs[i + 1]'(by omega)) := List.getElem?_eq_getElem (by omega)
    have h1 := ih (i + 1) _ (by omega) e
    have h2 := h.2 i x _ hx e
    omega
theorem SetP.at {zs : List Int} {m : Nat} (h : SetP zs m) (hl : zs.length = m) {i : Nat} (hi : i < m) : (i : Int) ∈ zs := by
  have e : zs[i]? = some (zs[i]'(by omega)) := List.getElem?_eq_getElem (by omega)
  have h1 := h.ge i _ e
  have h2 := h.le hl (m - i - 1) i _ (by omega) e
  have : zs[i]'(by omega) = (i : Int) := by omega
  rw [← this]
  exact List.getElem_mem _
theorem perm_iota : ∀ (n : Nat) (L : List Int), L.length = n → (∀ i : Nat, i < n → (i : Int) ∈ L) → L.Perm (iota 0 n) := by
  intro n
  induction n with
  | zero => intro L hl _; rw [List.eq_nil_of_length_eq_zero hl]; exact List.Perm.refl _
  | succ n ih =>
    intro L hl h
    have hm := h n (by omega)
    have h1 := List.perm_cons_erase hm
    have h2 : (L.erase (n : Int)).length = n := by rw [List.length_erase_of_mem hm]; omega
    have h3 := ih (L.erase (n : Int)) h2 (fun i hi => (List.mem_erase_of_ne (by omega)).2 (h i (by omega)))
    refine h1.trans ((h3.cons _).trans ?_)
    have : iota 0 (n + 1) = iota 0 n ++ [(n : Int)] := by simp [iota, List.range_succ]
    rw [this]
    exact (List.perm_append_comm (l₁ := [(n : Int)]) (l₂ := iota 0 n))
theorem iota_nodup (n : Nat) : (iota 0 n).Nodup := by
  unfold iota List.Nodup
  rw [List.pairwise_map]
  exact (List.nodup_range (n := n)).imp (fun h e => h (by omega))
/-- Does an order have each number below n? -/
def hasB (os : List Int) (n : Nat) : Bool := (List.range n).all fun i => os.any (· == (i : Int))
theorem hasB_true {os : List Int} {n : Nat} : hasB os n = true ↔ ∀ i : Nat, i < n → (i : Int) ∈ os := by
  unfold hasB
  rw [List.all_eq_true]
  constructor
  · intro h i hi
    have := h i (List.mem_range.2 hi)
    rw [List.any_eq_true] at this
    obtain ⟨z, hz, e⟩ := this
    have e : z = (i : Int) := by simpa using e
    rwa [← e]
  · intro h i hi
    rw [List.any_eq_true]
    exact ⟨_, h i (List.mem_range.1 hi), by simp⟩
theorem sorted_set {os : List Int} {n : Nat} (hl : os.length = n) : SetP (os.mergeSort fun x y => decide (x ≤ y)) n ↔ hasB os n = true := by
  have hp := List.mergeSort_perm os (fun x y => decide (x ≤ y))
  have hlen : (os.mergeSort fun x y => decide (x ≤ y)).length = n := by rw [hp.length_eq, hl]
  rw [hasB_true]
  constructor
  · intro h i hi
    exact hp.mem_iff.1 (h.at hlen hi)
  · intro h
    have h1 := perm_iota n os hl h
    have h2 := hp.trans h1
    have hs := List.pairwise_mergeSort (le := fun x y : Int => decide (x ≤ y)) (by intro a b c h1 h2; simp at *; omega) (by intro a b; simp; omega) os
    have hn : (os.mergeSort fun x y => decide (x ≤ y)).Nodup := h2.symm.nodup (iota_nodup n)
    refine ⟨fun z hz => ?_, fun i x y hx hy => ?_⟩
    · have := iota_mem (h2.mem_iff.1 hz); omega
    · obtain ⟨l1, e1⟩ := List.getElem?_eq_some_iff.1 hx
      obtain ⟨l2, e2⟩ := List.getElem?_eq_some_iff.1 hy
      have a := List.pairwise_iff_getElem.1 hs i (i + 1) l1 l2 (by omega)
      have b := List.pairwise_iff_getElem.1 hn i (i + 1) l1 l2 (by omega)
      rw [e1, e2] at a b
      simp at a
      omega
/-- Are an order and keys those of a mix of n rows? -/
def keysB (kss : List (List Int)) : Bool := kss.all fun l => allB l 3 expB
def mixB (os : List Int) (kss : List (List Int)) (n : Nat) : Bool := decide (n ≤ 12) && decide (os.length = n) && decide (kss.length = n) && hasB os n && keysB kss
theorem mixB_true {os : List Int} {kss : List (List Int)} {n : Nat} : mixB os kss n = true ↔ n ≤ 12 ∧ os.length = n ∧ kss.length = n ∧ (∀ i : Nat, i < n → (i : Int) ∈ os) ∧ ∀ l ∈ kss, l.length = 3 ∧ ∀ z ∈ l, 0 ≤ z ∧ z ≤ 500000002 := by
  unfold mixB keysB
  simp only [Bool.and_eq_true, decide_eq_true_eq, hasB_true, List.all_eq_true, allB_true]
  constructor
  · rintro ⟨⟨⟨⟨h1, h2⟩, h3⟩, h4⟩, h5⟩
    exact ⟨h1, h2, h3, h4, fun l hl => ⟨by have := (h5 l hl).1; omega, fun z hz => expB_true ((h5 l hl).2 z hz)⟩⟩
  · rintro ⟨h1, h2, h3, h4, h5⟩
    exact ⟨⟨⟨⟨h1, h2⟩, h3⟩, h4⟩, fun l hl => ⟨by have := (h5 l hl).1; omega, fun z hz => inR_true.2 ((h5 l hl).2 z hz)⟩⟩
theorem mix_in {os : List Int} {kss : List (List Int)} {n : Nat} (h : mixB os kss n = true) : ∀ z ∈ os, 0 ≤ z ∧ z < n := by
  obtain ⟨h1, h2, h3, h4, h5⟩ := mixB_true.1 h
  intro z hz
  have := iota_mem ((perm_iota n os h2 h4).mem_iff.1 hz)
  omega
end Go.Proofs.Ytfanjnoaifhnnaa
