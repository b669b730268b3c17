/- Paths by steps, and the search for one by levels. No program. -/
import Derived.Test.YtikcbconfinibaaRkMath
namespace Go.Proofs.Ytikcbconfinibaa
set_option linter.unusedVariables false
inductive SP (n : Nat) (E : Nat → Nat → Bool) (f : Nat) : List Nat → Nat → Prop
  | base : SP n E f [f] f
  | snoc {p : List Nat} {a b : Nat} : SP n E f p a → b < n → b ∉ p → E a b = true → SP n E f (p ++ [b]) b
section
variable {n f : Nat} {E : Nat → Nat → Bool}
theorem SP.pos {p : List Nat} {a : Nat} (h : SP n E f p a) : 0 < p.length := by cases h <;> simp
theorem SP.last {p : List Nat} {a : Nat} (h : SP n E f p a) : p[p.length - 1]? = some a := by
  cases h with
  | base => rfl
  | snoc h h1 h2 h3 => simp
theorem SP.lastD {p : List Nat} {a : Nat} (h : SP n E f p a) : p.getLastD 0 = a := by cases h <;> simp
theorem SP.first {p : List Nat} {a : Nat} (h : SP n E f p a) : p[0]? = some f := by
  induction h with
  | base => rfl
  | snoc h h1 h2 h3 ih => rw [List.getElem?_append_left h.pos]; exact ih
theorem SP.nodup {p : List Nat} {a : Nat} (h : SP n E f p a) : p.Nodup := by
  induction h with
  | base => simp
  | snoc h h1 h2 h3 ih =>
    rw [List.nodup_append]
    refine ⟨ih, by simp, fun x hx y hy => ?_⟩
    simp at hy
    subst hy
    exact fun e => h2 (e ▸ hx)
theorem SP.lt {p : List Nat} {a : Nat} (hf : f < n) (h : SP n E f p a) : ∀ x ∈ p, x < n := by
  induction h with
  | base => intro x hx; simp at hx; omega
  | snoc h h1 h2 h3 ih =>
    intro x hx
    rcases List.mem_append.1 hx with hx | hx
    · exact ih x hx
    · simp at hx; omega
theorem SP.len {p : List Nat} {a : Nat} (hf : f < n) (h : SP n E f p a) : p.length ≤ n := by
  have := h.nodup.length_le_of_subset (l₂ := List.range n) (fun x hx => List.mem_range.2 (h.lt hf x hx))
  simpa using this
/-- The lists by one option longer. -/
def kids (E : Nat → Nat → Bool) (p : List Nat) (m : Nat) : List (List Nat) := ((List.range m).filter fun b => !p.elem b && E (p.getLastD 0) b).map fun b => p ++ [b]
def lvl (n : Nat) (E : Nat → Nat → Bool) (f : Nat) : Nat → List (List Nat)
  | 0 => [[f]]
  | k + 1 => (lvl n E f k).flatMap fun p => kids E p n
theorem kids_len (p : List Nat) (m : Nat) : (kids E p m).length ≤ m := by
  unfold kids
  rw [List.length_map]
  exact Nat.le_trans (List.length_filter_le _ _) (by simp)
theorem kids_next (p : List Nat) (m : Nat) : kids E p (m + 1) = if (!p.elem m && E (p.getLastD 0) m) = true then kids E p m ++ [p ++ [m]] else kids E p m := by
  unfold kids
  rw [List.range_succ, List.filter_append, List.map_append]
  by_cases h : (!p.elem m && E (p.getLastD 0) m) = true
  · rw [if_pos h]; simp only [List.filter_cons, List.filter_nil, h, if_true, List.map_cons, List.map_nil]
  · rw [if_neg h]; simp only [List.filter_cons, List.filter_nil, h]; simp
theorem flat_le (m : Nat) : ∀ L : List (List Nat), (L.flatMap fun p => kids E p m).length ≤ m * L.length
  | [] => by simp
  | p :: L => by
    rw [List.flatMap_cons, List.length_append, List.length_cons, Nat.mul_succ]
    have := flat_le m L
    have := kids_len (E := E) p m
    omega
theorem lvl_len (hn : n ≤ 6) : ∀ k, (lvl n E f k).length ≤ 6 ^ k
  | 0 => by simp [lvl]
  | k + 1 => by
    have h1 := flat_le (E := E) n (lvl n E f k)
    have h2 := lvl_len hn k
    have h3 : n * (lvl n E f k).length ≤ 6 * 6 ^ k := Nat.mul_le_mul hn h2
    show ((lvl n E f k).flatMap fun p => kids E p n).length ≤ _
    rw [Nat.pow_succ]
    omega
theorem lvl_le (hn : n ≤ 6) {k : Nat} (hk : k ≤ 5) : (lvl n E f k).length ≤ 7776 := Nat.le_trans (lvl_len hn k) (Nat.pow_le_pow_right (by omega) hk)
theorem lvl_sp : ∀ k, ∀ p ∈ lvl n E f k, p.length = k + 1 ∧ ∃ a, SP n E f p a
  | 0, p, h => by
    simp [lvl] at h
    subst h
    exact ⟨rfl, f, .base⟩
  | k + 1, p, h => by
    obtain ⟨q, hq, hp⟩ := List.mem_flatMap.1 h
    obtain ⟨hl, a, hs⟩ := lvl_sp k q hq
    obtain ⟨b, hb, rfl⟩ := List.mem_map.1 hp
    rw [List.mem_filter, List.mem_range, Bool.and_eq_true, hs.lastD] at hb
    exact ⟨by simp [hl], b, .snoc hs hb.1 (by simpa using hb.2.1) hb.2.2⟩
theorem sp_lvl {p : List Nat} {a : Nat} (h : SP n E f p a) : p ∈ lvl n E f (p.length - 1) := by
  induction h with
  | base => simp [lvl]
  | @snoc p a b h h1 h2 h3 ih =>
    have hp := h.pos
    have e : (p ++ [b]).length - 1 = (p.length - 1) + 1 := by simp; omega
    rw [e]
    refine List.mem_flatMap.2 ⟨p, ih, List.mem_map.2 ⟨b, ?_, rfl⟩⟩
    rw [List.mem_filter, List.mem_range, Bool.and_eq_true, h.lastD]
    exact ⟨h1, by simpa using h2, h3⟩
/-- The list goes on to the end. -/
def hit (E : Nat → Nat → Bool) (t : Nat) (p : List Nat) : Bool := !p.elem t && E (p.getLastD 0) t
def NoHit (n : Nat) (E : Nat → Nat → Bool) (f t k : Nat) : Prop := ∀ j, j < k → ∀ p ∈ lvl n E f j, hit E t p = false
theorem NoHit.none {t : Nat} (hf : f < n) (hne : f ≠ t) (h : NoHit n E f t n) (p : List Nat) : ¬ SP n E f p t := by
  intro hs
  cases hs with
  | base => exact hne rfl
  | @snoc p a b h1 h2 h3 h4 =>
    have hl := h1.len hf
    have hp := h1.pos
    have := h (p.length - 1) (by omega) p (sp_lvl h1)
    unfold hit at this
    rw [h1.lastD, h4, Bool.and_true] at this
    simp at this
    exact h3 this
theorem NoHit.next {t k : Nat} (h : NoHit n E f t k) (h2 : ∀ p ∈ lvl n E f k, hit E t p = false) : NoHit n E f t (k + 1) := by
  intro j hj
  rcases Nat.lt_or_eq_of_le (Nat.le_of_lt_succ hj) with hj | rfl
  · exact h j hj
  · exact h2
end
end Go.Proofs.Ytikcbconfinibaa
