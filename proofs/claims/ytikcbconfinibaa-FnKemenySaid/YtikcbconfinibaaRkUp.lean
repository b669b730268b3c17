/- A ranking in which one option is raised by one place. No program. -/
import Derived.Test.YtikcbconfinibaaRkRaise
import Derived.Test.YtikcbconfinibaaRkOk
namespace Go.Proofs.Ytikcbconfinibaa
set_option linter.unusedVariables false
theorem cnt_append (r s : List Nat) (b : Nat) : cnt (r ++ s) b = cnt r b + cnt s b := by unfold cnt; rw [List.count_append]; omega
theorem cn_append (a b : Nat) : ∀ r s : List Nat, cn (r ++ s) a b = cn r a b + cn s a b + cnt r a * cnt s b
  | [], s => by simp [cn, cnt]
  | x :: r, s => by
    rw [List.cons_append]
    show (if x = a then cnt (r ++ s) b else 0) + cn (r ++ s) a b = ((if x = a then cnt r b else 0) + cn r a b) + cn s a b + cnt (x :: r) a * cnt s b
    rw [cn_append a b r s, cnt_append, cnt_cons]
    by_cases h : x = a
    · rw [if_pos h, if_pos h, if_pos h, Int.add_mul]
      omega
    · rw [if_neg h, if_neg h, if_neg h, Int.zero_add, Int.zero_add, Int.zero_add]
theorem cn_two (x y a b : Nat) : cn [x, y] a b = if x = a ∧ y = b then 1 else 0 := by
  show (if x = a then cnt [y] b else 0) + ((if y = a then cnt [] b else 0) + 0) = _
  have e : cnt [y] b = if y = b then 1 else 0 := by
    have := cnt_snoc [] y b
    simpa [cnt] using this
  rw [e]
  by_cases h1 : x = a <;> by_cases h2 : y = b <;> simp [h1, h2, cnt]
/-- y x becomes x y. -/
theorem cn_swap (p s : List Nat) (x y a b : Nat) : cn (p ++ ([x, y] ++ s)) a b = cn (p ++ ([y, x] ++ s)) a b + (if x = a ∧ y = b then 1 else 0) - (if y = a ∧ x = b then 1 else 0) := by
  have c1 : ∀ q, cnt [x, y] q = cnt [y, x] q := fun q => by unfold cnt; rw [(List.Perm.swap y x []).count_eq]
  rw [cn_append, cn_append, cn_append, cn_append, cnt_append, cnt_append, cn_two, cn_two, c1 a, c1 b]
  omega
theorem split_at {r : List Nat} {j x y : Nat} (hy : r[j]? = some y) (hx : r[j + 1]? = some x) : r = r.take j ++ ([y, x] ++ r.drop (j + 2)) := by
  obtain ⟨h1, rfl⟩ := List.getElem?_eq_some_iff.1 hy
  obtain ⟨h2, rfl⟩ := List.getElem?_eq_some_iff.1 hx
  conv => lhs; rw [← List.take_append_drop j r]
  rw [List.drop_eq_getElem_cons h1, List.drop_eq_getElem_cons h2]
  rfl
def up (r : List Nat) (j x y : Nat) : List Nat := (r.set j x).set (j + 1) y
theorem up_split {r : List Nat} {j x y : Nat} (hy : r[j]? = some y) (hx : r[j + 1]? = some x) : up r j x y = r.take j ++ ([x, y] ++ r.drop (j + 2)) := by
  have hl : j < r.length := (List.getElem?_eq_some_iff.1 hy).1
  have ht : (r.take j).length = j := by rw [List.length_take]; omega
  unfold up
  conv => lhs; rw [split_at hy hx]
  rw [List.set_append_right _ _ (by omega), ht, Nat.sub_self]
  show (r.take j ++ (x :: ([x] ++ r.drop (j + 2)))).set (j + 1) y = _
  rw [List.set_append_right _ _ (by omega), ht, Nat.add_sub_cancel_left]
  rfl
theorem cn_up {r : List Nat} {j x y : Nat} (hy : r[j]? = some y) (hx : r[j + 1]? = some x) (a b : Nat) : cn (up r j x y) a b = cn r a b + (if x = a ∧ y = b then 1 else 0) - (if y = a ∧ x = b then 1 else 0) := by
  rw [up_split hy hx]
  conv => rhs; rw [split_at hy hx]
  exact cn_swap _ _ x y a b
theorem prs_set : ∀ {l : List (List Nat × Int)} {k : Nat} {r r' : List Nat} {v : Int}, l[k]? = some (r, v) → ∀ a b, prs (l.set k (r', v)) a b = prs l a b + v * (cn r' a b - cn r a b)
  | [], k, r, r', v, h, a, b => by simp at h
  | q :: l, 0, r, r', v, h, a, b => by
    simp at h
    subst h
    rw [List.set_cons_zero]
    show v * cn r' a b + prs l a b = (v * cn r a b + prs l a b) + v * (cn r' a b - cn r a b)
    rw [Int.mul_sub]
    omega
  | q :: l, k + 1, r, r', v, h, a, b => by
    rw [List.set_cons_succ]
    show q.2 * cn q.1 a b + prs (l.set k (r', v)) a b = (q.2 * cn q.1 a b + prs l a b) + v * (cn r' a b - cn r a b)
    rw [prs_set (by simpa using h) a b]
    omega
theorem zip_set {rs : List (List Nat)} {ws : List Int} {k : Nat} {r' : List Nat} {v : Int} (hv : ws[k]? = some v) : (rs.set k r').zip ws = (rs.zip ws).set k (r', v) := by
  apply List.ext_getElem?
  intro i
  by_cases e : k = i
  · subst e
    by_cases hk : k < rs.length
    · have hw := (List.getElem?_eq_some_iff.1 hv).1
      rw [List.getElem?_set_self (by rw [List.length_zip]; omega)]
      exact List.getElem?_zip_eq_some.2 ⟨List.getElem?_set_self hk, hv⟩
    · rw [List.getElem?_eq_none (by rw [List.length_zip, List.length_set]; omega), List.getElem?_eq_none (by rw [List.length_set, List.length_zip]; omega)]
  · rw [List.getElem?_set_ne e]
    have e1 : (rs.set k r')[i]? = rs[i]? := List.getElem?_set_ne e
    cases h1 : rs[i]? with
    | none =>
      rw [List.getElem?_eq_none (by rw [List.length_zip, List.length_set]; have := List.getElem?_eq_none_iff.1 h1; omega), List.getElem?_eq_none (by rw [List.length_zip]; have := List.getElem?_eq_none_iff.1 h1; omega)]
    | some x =>
      cases h2 : ws[i]? with
      | none => rw [List.getElem?_eq_none (by rw [List.length_zip]; have := List.getElem?_eq_none_iff.1 h2; omega), List.getElem?_eq_none (by rw [List.length_zip]; have := List.getElem?_eq_none_iff.1 h2; omega)]
      | some y =>
        have k1 : (rs.zip ws)[i]? = some (x, y) := List.getElem?_zip_eq_some.2 ⟨h1, h2⟩
        rw [k1]
        exact List.getElem?_zip_eq_some.2 ⟨e1.trans h1, h2⟩
theorem up_perm {n : Nat} {r : List Nat} {j x y : Nat} (hp : r.Perm (List.range n)) (hy : r[j]? = some y) (hx : r[j + 1]? = some x) : (up r j x y).Perm (List.range n) := by
  obtain ⟨h1, rfl⟩ := List.getElem?_eq_some_iff.1 hy
  obtain ⟨h2, rfl⟩ := List.getElem?_eq_some_iff.1 hx
  exact (List.set_set_perm h1 h2).trans hp
theorem PrOk.up {n : Nat} {rs : List (List Nat)} {ws : List Int} (h : PrOk n rs ws) {k j x y : Nat} {r : List Nat} (hr : rs[k]? = some r) (hy : r[j]? = some y) (hx : r[j + 1]? = some x) : PrOk n (rs.set k (up r j x y)) ws :=
  ⟨h.n1, h.n6, by rw [List.length_set]; exact h.m1, by rw [List.length_set]; exact h.m12, by rw [List.length_set]; exact h.lw, fun q hq => by
    rcases List.mem_or_eq_of_mem_set hq with hq | rfl
    · exact h.perm q hq
    · exact up_perm (h.perm r (List.mem_of_getElem? hr)) hy hx, h.wt⟩
/-- A winner that is raised in a ranking stays a winner. -/
theorem up_wins {n : Nat} {rs : List (List Nat)} {ws : List Int} (h : PrOk n rs ws) {k j x y : Nat} {r : List Nat} (hr : rs[k]? = some r) (hy : r[j]? = some y) (hx : r[j + 1]? = some x)
    (hw : x ∈ wnL n (strg n (prs (rs.zip ws)))) : x ∈ wnL n (strg n (prs ((rs.set k (up r j x y)).zip ws))) := by
  have hrm := List.mem_of_getElem? hr
  have xn := h.lt hrm (List.mem_of_getElem? hx)
  have hne : x ≠ y := fun e => by
    subst e
    obtain ⟨h1, e1⟩ := List.getElem?_eq_some_iff.1 hy
    obtain ⟨h2, e2⟩ := List.getElem?_eq_some_iff.1 hx
    have := List.pairwise_iff_getElem.1 (h.nodup hrm) j (j + 1) h1 h2 (by omega)
    exact this (e1.trans e2.symm)
  obtain ⟨v, hv⟩ : ∃ v, ws[k]? = some v := ⟨_, List.getElem?_eq_getElem (by have := (List.getElem?_eq_some_iff.1 hr).1; have := h.lw; omega)⟩
  have v0 := (h.wt v (List.mem_of_getElem? hv)).1
  have key : ∀ a b, prs ((rs.set k (up r j x y)).zip ws) a b = prs (rs.zip ws) a b + v * ((if x = a ∧ y = b then 1 else 0) - (if y = a ∧ x = b then 1 else 0)) := fun a b => by
    rw [zip_set hv, prs_set (List.getElem?_zip_eq_some.2 ⟨hr, hv⟩) a b, cn_up hy hx a b]
    congr 2
    omega
  have bd : ∀ (rs : List (List Nat)), PrOk n rs ws → ∀ a b, 0 ≤ prs (rs.zip ws) a b := fun rs h a b => (prs_bd (rs.zip ws) a b (fun p hp => by
    have h1 := (List.of_mem_zip (a := p.1) (b := p.2) hp)
    exact ⟨by rw [h.len h1.1]; exact h.n6, h.wt _ h1.2⟩)).1
  refine raise_win (y := y) xn hne ?_ ?_ (fun a b h1 h2 => ?_) (bd rs h) (bd _ (h.up hr hy hx)) hw
  · rw [key, if_pos ⟨rfl, rfl⟩, if_neg (fun q => hne q.2)]
    omega
  · rw [key, if_neg (fun q => hne q.1), if_pos ⟨rfl, rfl⟩]
    omega
  · rw [key, if_neg (fun q => h1 ⟨q.1.symm, q.2.symm⟩), if_neg (fun q => h2 ⟨q.1.symm, q.2.symm⟩)]
    omega
end Go.Proofs.Ytikcbconfinibaa
