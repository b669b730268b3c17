/- The plain law of the margin: the program's gains sorted and the model's effects give the same number. No program. -/
import Derived.Test.YtfanjnoaifhnnaaCount
namespace Go.Proofs.Ytfanjnoaifhnnaa
set_option linter.unusedVariables false
open Go.RowKit
/-- How many of the first numbers of a list it takes to come to what is needed; -1 if all do not. -/
def cutF (need : Int) (k : Int) : List Int → Int
  | [] => -1
  | x :: xs => if need - x ≤ 0 then k + 1 else cutF (need - x) (k + 1) xs
theorem cutF_zeros (m : Nat) : ∀ (need k : Int), 0 < need → cutF need k (List.replicate m 0) = -1 := by
  induction m with
  | zero => intros; rfl
  | succ m ih =>
    intro need k h
    rw [List.replicate_succ]
    unfold cutF
    rw [if_neg (by omega), Int.sub_zero]
    exact ih _ _ h
theorem cutF_append (m : Nat) : ∀ (L : List Int) (need k : Int), 0 < need → cutF need k (L ++ List.replicate m 0) = cutF need k L := by
  intro L
  induction L with
  | nil => intro need k h; exact cutF_zeros m _ _ h
  | cons x xs ih =>
    intro need k h
    rw [List.cons_append]
    unfold cutF
    split
    · rfl
    · exact ih _ _ (by omega)
theorem cutF_bd : ∀ (L : List Int) (need : Int) (k : Int), 0 ≤ k → (cutF need k L = -1 ∨ k < cutF need k L) ∧ cutF need k L ≤ k + L.length := by
  intro L
  induction L with
  | nil => intro need k h; exact ⟨.inl rfl, by simp [cutF]; omega⟩
  | cons x xs ih =>
    intro need k h
    unfold cutF
    split
    · exact ⟨.inr (by omega), by simp; omega⟩
    · obtain ⟨h1, h2⟩ := ih (need - x) (k + 1) (by omega)
      exact ⟨by omega, by simp; omega⟩
/-! ### What is needed, and from whom -/
def mDiff (vs ws : List Int) : Int := (count vs ws).getD 0 0 - (count vs ws).getD 1 0 + 1
def mNeed (vs ws : List Int) : Int := if mDiff vs ws ≤ 0 then 1 - mDiff vs ws else mDiff vs ws
def mAg (vs ws : List Int) : Int := if mDiff vs ws ≤ 0 then 1 else 0
theorem mNeed_pos (vs ws : List Int) : 0 < mNeed vs ws := by unfold mNeed; split <;> omega
def gainL (ag : Int) (p : Int × Int) : List Int := if p.1 = ag then [2 * p.2] else if p.1 = 2 then [p.2] else []
def effX (ag : Int) (p : Int × Int) : Int := if p.1 = ag then 2 * p.2 else if p.1 = 2 then p.2 else 0
def gains (ag : Int) (vs ws : List Int) : List Int := (vs.zip ws).foldl (fun o p => o ++ gainL ag p) []
def desc (L : List Int) : List Int := (L.mergeSort fun x y => decide (x ≤ y)).reverse
/-- Where a number goes into a falling list: behind all that are not less. -/
def insAt (L : List Int) (x : Int) : Nat → Nat
  | 0 => 0
  | a + 1 => if L.getD a 0 < x then insAt L x a else a + 1
def insD (L : List Int) (x : Int) : List Int := L.take (insAt L x L.length) ++ x :: L.drop (insAt L x L.length)
def effects (ag : Int) (vs ws : List Int) : List Int := (vs.zip ws).foldl (fun o p => insD o (effX ag p)) []
/-- The margin: -1 if there is none. -/
def marg (vs ws : List Int) : Int := cutF (mNeed vs ws) 0 (desc (gains (mAg vs ws) vs ws))

theorem insAt_le (L : List Int) (x : Int) : ∀ a, insAt L x a ≤ a := by
  intro a
  induction a with
  | zero => exact Nat.le_refl _
  | succ a ih => unfold insAt; split <;> omega
theorem insAt_lo (L : List Int) (x : Int) : ∀ a j, insAt L x a ≤ j → j < a → L.getD j 0 < x := by
  intro a
  induction a with
  | zero => intro j _ h; omega
  | succ a ih =>
    intro j h1 h2
    unfold insAt at h1
    split at h1
    · rename_i h
      rcases Nat.lt_or_ge j a with h3 | h3
      · exact ih j h1 h3
      · obtain rfl : j = a := by omega
        exact h
    · omega
theorem insAt_hi (L : List Int) (x : Int) : ∀ a, insAt L x a = 0 ∨ x ≤ L.getD (insAt L x a - 1) 0 := by
  intro a
  induction a with
  | zero => exact .inl rfl
  | succ a ih =>
    unfold insAt
    split
    · exact ih
    · rename_i h
      exact .inr (by rw [Nat.add_sub_cancel]; omega)
theorem insD_perm (L : List Int) (x : Int) : (insD L x).Perm (x :: L) := by
  unfold insD
  refine List.perm_middle.trans ?_
  rw [List.take_append_drop]
theorem getD_getElem {L : List Int} {j : Nat} (h : j < L.length) : L.getD j 0 = L[j] := by rw [List.getD_eq_getElem?_getD, List.getElem?_eq_getElem h]; rfl
theorem insD_sorted {L : List Int} (h : L.Pairwise (fun a b => b ≤ a)) (x : Int) : (insD L x).Pairwise (fun a b => b ≤ a) := by
  unfold insD
  have hle := insAt_le L x L.length
  have hl := insAt_lo L x L.length
  have hh := insAt_hi L x L.length
  generalize insAt L x L.length = at_ at *
  rw [List.pairwise_append, List.pairwise_cons]
  have tk : ∀ a ∈ L.take at_, x ≤ a := by
    intro a ha
    obtain ⟨i, hi, rfl⟩ := List.getElem_of_mem ha
    simp only [List.length_take] at hi
    rw [List.getElem_take]
    rcases hh with h0 | h0
    · omega
    · rw [getD_getElem (by omega)] at h0
      rcases Nat.lt_or_ge i (at_ - 1) with h1 | h1
      · have := List.pairwise_iff_getElem.1 h i (at_ - 1) (by omega) (by omega) h1
        omega
      · obtain rfl : i = at_ - 1 := by omega
        exact h0
  have dr : ∀ b ∈ L.drop at_, b < x := by
    intro b hb
    obtain ⟨i, hi, rfl⟩ := List.getElem_of_mem hb
    simp only [List.length_drop] at hi
    rw [List.getElem_drop]
    have := hl (at_ + i) (by omega) (by omega)
    rwa [getD_getElem (by omega)] at this
  refine ⟨h.sublist (List.take_sublist _ _), ⟨fun b hb => by have := dr b hb; omega, h.sublist (List.drop_sublist _ _)⟩, ?_⟩
  intro a ha b hb
  rcases List.mem_cons.1 hb with rfl | hb
  · exact tk a ha
  · have := tk a ha; have := dr b hb; omega
theorem effects_fold (ag : Int) : ∀ (l : List (Int × Int)) (o : List Int), o.Pairwise (fun a b => b ≤ a) →
    (l.foldl (fun o p => insD o (effX ag p)) o).Pairwise (fun a b => b ≤ a) ∧ (l.foldl (fun o p => insD o (effX ag p)) o).Perm (o ++ l.map (effX ag)) := by
  intro l
  induction l with
  | nil => intro o h; exact ⟨h, by simp⟩
  | cons p l ih =>
    intro o h
    obtain ⟨h1, h2⟩ := ih (insD o (effX ag p)) (insD_sorted h _)
    refine ⟨h1, h2.trans ?_⟩
    refine ((insD_perm o (effX ag p)).append_right _).trans ?_
    rw [List.map_cons, List.cons_append]
    exact List.perm_middle.symm
theorem gains_fold (ag : Int) : ∀ (l : List (Int × Int)) (o : List Int), l.foldl (fun o p => o ++ gainL ag p) o = o ++ (l.map (gainL ag)).flatten := by
  intro l
  induction l with
  | nil => intro o; simp
  | cons p l ih => intro o; rw [List.foldl_cons, ih]; simp
/-- The effects are the gains and some zeros. -/
theorem eff_gain (ag : Int) : ∀ l : List (Int × Int), ∃ m, (l.map (effX ag)).Perm ((l.map (gainL ag)).flatten ++ List.replicate m 0) := by
  intro l
  induction l with
  | nil => exact ⟨0, by simp⟩
  | cons p l ih =>
    obtain ⟨m, h⟩ := ih
    rw [List.map_cons, List.map_cons, List.flatten_cons]
    by_cases h1 : p.1 = ag
    · rw [show effX ag p = 2 * p.2 by simp [effX, h1], show gainL ag p = [2 * p.2] by simp [gainL, h1]]
      exact ⟨m, by rw [List.cons_append, List.nil_append, List.cons_append]; exact h.cons _⟩
    · by_cases h2 : p.1 = 2
      · rw [show effX ag p = p.2 by unfold effX; rw [if_neg h1, if_pos h2], show gainL ag p = [p.2] by unfold gainL; rw [if_neg h1, if_pos h2]]
        exact ⟨m, by rw [List.cons_append, List.nil_append, List.cons_append]; exact h.cons _⟩
      · rw [show effX ag p = 0 by unfold effX; rw [if_neg h1, if_neg h2], show gainL ag p = [] by unfold gainL; rw [if_neg h1, if_neg h2]]
        refine ⟨m + 1, (h.cons 0).trans ?_⟩
        rw [List.nil_append, List.replicate_succ]
        exact List.perm_middle.symm
theorem desc_perm (L : List Int) : (desc L).Perm L := (List.reverse_perm _).trans (List.mergeSort_perm _ _)
theorem desc_sorted (L : List Int) : (desc L).Pairwise (fun a b => b ≤ a) := by
  unfold desc
  rw [List.pairwise_reverse]
  have := List.pairwise_mergeSort (le := fun x y : Int => decide (x ≤ y)) (by intro a b c; simp; omega) (by intro a b; simp; omega) L
  simpa using this
theorem gains_nonneg {ag : Int} {vs ws : List Int} (hw : ∀ z ∈ ws, 0 ≤ z) : ∀ z ∈ gains ag vs ws, 0 ≤ z := by
  intro z hz
  unfold gains at hz
  rw [gains_fold, List.nil_append] at hz
  obtain ⟨L, hL, hz⟩ := List.mem_flatten.1 hz
  obtain ⟨p, hp, rfl⟩ := List.mem_map.1 hL
  have h0 := hw p.2 (List.of_mem_zip (a := p.1) (b := p.2) hp).2
  unfold gainL at hz
  split at hz
  · simp at hz; omega
  · split at hz
    · simp at hz; omega
    · simp at hz
/-- The model's effects are the program's sorted gains, and zeros. -/
theorem effects_eq {ag : Int} {vs ws : List Int} (hw : ∀ z ∈ ws, 0 ≤ z) : ∃ m, effects ag vs ws = desc (gains ag vs ws) ++ List.replicate m 0 := by
  obtain ⟨m, hm⟩ := eff_gain ag (vs.zip ws)
  obtain ⟨h1, h2⟩ := effects_fold ag (vs.zip ws) [] .nil
  rw [List.nil_append] at h2
  refine ⟨m, List.Perm.eq_of_pairwise (le := fun a b : Int => b ≤ a) (fun a b _ _ h k => Int.le_antisymm k h) h1 ?_ ?_⟩
  · rw [List.pairwise_append]
    refine ⟨desc_sorted _, ?_, ?_⟩
    · rw [List.pairwise_replicate]; exact .inr (Int.le_refl _)
    · intro a ha b hb
      have e := (List.mem_replicate.1 hb).2
      subst e
      exact gains_nonneg hw a ((desc_perm _).mem_iff.1 ha)
  · refine h2.trans (hm.trans ?_)
    refine List.Perm.append_right _ ?_
    refine ((desc_perm _).trans ?_).symm
    unfold gains
    rw [gains_fold, List.nil_append]
theorem marg_effects {vs ws : List Int} (hw : ∀ z ∈ ws, 0 ≤ z) : cutF (mNeed vs ws) 0 (effects (mAg vs ws) vs ws) = marg vs ws := by
  obtain ⟨m, h⟩ := effects_eq (ag := mAg vs ws) (vs := vs) hw
  rw [h, cutF_append m _ _ _ (mNeed_pos vs ws)]
  rfl
end Go.Proofs.Ytfanjnoaifhnnaa
