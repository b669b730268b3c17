/- The plain law of the margin, more: as many changes as it says are needed, and the greatest ones suffice. No program. -/
import Derived.Test.YtfanjnoaifhnnaaMargLaw
namespace Go.Proofs.Ytfanjnoaifhnnaa
set_option linter.unusedVariables false
open Go.RowKit
def sumI : List Int → Int
  | [] => 0
  | x :: xs => x + sumI xs
theorem sumI_append (A B : List Int) : sumI (A ++ B) = sumI A + sumI B := by
  induction A with
  | nil => simp [sumI]
  | cons x xs ih => simp [sumI, ih]; omega
theorem sumI_set : ∀ (L : List Int) (i : Nat) (x y : Int), L[i]? = some x → sumI (L.set i y) = sumI L - x + y := by
  intro L
  induction L with
  | nil => intro i x y h; simp at h
  | cons a L ih =>
    intro i x y h
    cases i with
    | zero => simp at h; subst h; simp [sumI]; omega
    | succ i => simp at h; simp [sumI, ih i x y h]; omega
def topS (L : List Int) (k : Nat) : Int := sumI (L.take k)
theorem topS_append (A B : List Int) (k : Nat) : topS (A ++ B) k = topS A k + topS B (k - A.length) := by
  unfold topS; rw [List.take_append, sumI_append]
theorem topS_succ (L : List Int) (k : Nat) : topS L (k + 1) = topS L k + L.getD k 0 := by
  unfold topS
  rw [List.take_add_one, sumI_append, List.getD_eq_getElem?_getD]
  cases L[k]? <;> simp [sumI]
theorem topS_cons (x : Int) (B : List Int) (t : Nat) : topS (x :: B) (t + 1) = x + topS B t := by simp [topS, sumI]
theorem topS_all {A : List Int} {k : Nat} (h : A.length ≤ k) : topS A k = sumI A := by unfold topS; rw [List.take_of_length_le h]
theorem cut_of_top : ∀ (L : List Int) (need : Int) (j k : Nat), 0 < need → need ≤ topS L k → (j : Int) < cutF need j L ∧ cutF need j L ≤ (j : Int) + k := by
  intro L
  induction L with
  | nil => intro need j k h0 h; simp [topS, sumI] at h; omega
  | cons x xs ih =>
    intro need j k h0 h
    cases k with
    | zero => simp [topS, sumI] at h; omega
    | succ k =>
      rw [topS_cons] at h
      unfold cutF
      split
      · exact ⟨by omega, by omega⟩
      · have := ih (need - x) (j + 1) k (by omega) (by omega)
        rw [Int.natCast_add, Int.natCast_one] at this
        exact ⟨by omega, by omega⟩
theorem mem_getD {L : List Int} {k : Nat} (P : Int → Prop) (h : ∀ z ∈ L, P z) (h0 : P 0) : P (L.getD k 0) := by
  rw [List.getD_eq_getElem?_getD]
  cases hk : L[k]? with
  | none => exact h0
  | some z => exact h z (List.mem_of_getElem? hk)
/-- Where a number was put: what is not less stands before it, what is less behind it. -/
theorem insD_split {L : List Int} (h : L.Pairwise (fun a b => b ≤ a)) (x : Int) : ∃ A B, L = A ++ B ∧ insD L x = A ++ x :: B ∧ (∀ a ∈ A, x ≤ a) ∧ (∀ b ∈ B, b < x) := by
  have hle := insAt_le L x L.length
  have hl := insAt_lo L x L.length
  have hh := insAt_hi L x L.length
  refine ⟨L.take (insAt L x L.length), L.drop (insAt L x L.length), (List.take_append_drop _ _).symm, rfl, ?_, ?_⟩
  · generalize insAt L x L.length = at_ at *
    intro a ha
    obtain ⟨i, hi, rfl⟩ := List.getElem_of_mem ha
    simp only [List.length_take] at hi
    rw [List.getElem_take]
    rcases hh with h0 | h0
    · omega
    · rw [getD_getElem (by omega)] at h0
      rcases Nat.lt_or_ge i (at_ - 1) with h1 | h1
      · have := List.pairwise_iff_getElem.1 h i (at_ - 1) (by omega) (by omega) h1
        omega
      · obtain rfl : i = at_ - 1 := by omega
        exact h0
  · generalize insAt L x L.length = at_ at *
    intro b hb
    obtain ⟨i, hi, rfl⟩ := List.getElem_of_mem hb
    simp only [List.length_drop] at hi
    rw [List.getElem_drop]
    have := hl (at_ + i) (by omega) (by omega)
    rwa [getD_getElem (by omega)] at this
theorem top_ins {L : List Int} (h : L.Pairwise (fun a b => b ≤ a)) {x : Int} (hx : 0 ≤ x) (k : Nat) : topS L k ≤ topS (insD L x) k ∧ topS L k + x ≤ topS (insD L x) (k + 1) := by
  obtain ⟨A, B, e1, e2, hA, hB⟩ := insD_split h x
  rw [e2]
  conv => lhs; rw [e1]
  conv => rhs; rw [e1]
  rw [topS_append, topS_append, topS_append]
  constructor
  · rcases Nat.eq_zero_or_pos (k - A.length) with h0 | h0
    · rw [h0]; simp [topS]
    · obtain ⟨t, ht⟩ : ∃ t, k - A.length = t + 1 := ⟨k - A.length - 1, by omega⟩
      rw [ht, topS_cons, topS_succ]
      have := mem_getD (k := t) (fun z => z ≤ x) (fun z hz => Int.le_of_lt (hB z hz)) hx
      omega
  · rcases Nat.lt_or_ge k A.length with h0 | h0
    · rw [show k - A.length = 0 by omega, show k + 1 - A.length = 0 by omega, topS_succ]
      have := hA (A.getD k 0) (by rw [getD_getElem h0]; exact List.getElem_mem _)
      simp [topS, sumI]
      simp only [List.getD_eq_getElem?_getD] at this
      omega
    · rw [show k + 1 - A.length = (k - A.length) + 1 by omega, topS_cons, topS_all h0, topS_all (show A.length ≤ k + 1 by omega)]
      omega
/-! ### What a vote is worth -/
def score (p : Int × Int) : Int := if p.1 = 1 then p.2 else if p.1 = 0 then -p.2 else 0
def Dsum (vs ws : List Int) : Int := sumI ((vs.zip ws).map score)
theorem count_D : ∀ (l : List (Int × Int)) (o : List Int), o.length = 3 → (∀ p ∈ l, voteB p.1 = true) →
    (l.foldl cntS o).getD 1 0 - (l.foldl cntS o).getD 0 0 = o.getD 1 0 - o.getD 0 0 + sumI (l.map score) := by
  intro l
  induction l with
  | nil => intro o _ _; simp [sumI]
  | cons p l ih =>
    intro o ho hv
    rw [List.foldl_cons, ih (cntS o p) (by simp [cntS, ho]) (fun q hq => hv q (List.mem_cons_of_mem _ hq))]
    have hp := voteB_true (hv p (List.mem_cons_self ..))
    obtain ⟨v, w⟩ := p
    match o, ho with
    | [a, b, c], _ =>
      simp only [] at hp
      rcases (show v = 0 ∨ v = 1 ∨ v = 2 by omega) with rfl | rfl | rfl
      · simp [cntS, score, sumI]; omega
      · simp [cntS, score, sumI]; omega
      · simp [cntS, score, sumI]
theorem mDiff_D {vs ws : List Int} (hv : ∀ z ∈ vs, voteB z = true) : mDiff vs ws = 1 - Dsum vs ws := by
  have := count_D (vs.zip ws) [0, 0, 0] rfl (fun p hp => hv p.1 (List.of_mem_zip (a := p.1) (b := p.2) hp).1)
  unfold mDiff Dsum count
  simp at this
  simp
  omega
theorem adopt_D {vs ws : List Int} (hv : ∀ z ∈ vs, voteB z = true) : adopt vs ws = decide (0 < Dsum vs ws) := by
  have := mDiff_D (ws := ws) hv
  unfold mDiff at this
  unfold adopt
  congr 1
  apply propext
  omega
theorem mNeed_D {vs ws : List Int} (hv : ∀ z ∈ vs, voteB z = true) : mNeed vs ws = if 0 < Dsum vs ws then Dsum vs ws else 1 - Dsum vs ws := by
  unfold mNeed; rw [mDiff_D hv]
  by_cases h : 0 < Dsum vs ws
  · rw [if_pos h, if_pos (by omega)]; omega
  · rw [if_neg h, if_neg (by omega)]
theorem mAg_D {vs ws : List Int} (hv : ∀ z ∈ vs, voteB z = true) : mAg vs ws = if 0 < Dsum vs ws then 1 else 0 := by
  unfold mAg; rw [mDiff_D hv]
  by_cases h : 0 < Dsum vs ws
  · rw [if_pos h, if_pos (by omega)]
  · rw [if_neg h, if_neg (by omega)]
/-! ### As many changes as the margin says are needed -/
/-- How many places differ. -/
def chgN (vs xs : List Int) : Nat := ((vs.zip xs).filter (fun p => p.1 != p.2)).length
def sgnD (ag a b : Int) : Int := if ag = 1 then a - b else b - a
theorem eff_sum (ag : Int) (hag : ag = 0 ∨ ag = 1) : ∀ (vs xs ws : List Int) (o : List Int) (S : Int) (c : Nat), vs.length = xs.length → vs.length = ws.length → (∀ z ∈ vs, voteB z = true) → (∀ z ∈ xs, voteB z = true) → (∀ z ∈ ws, 0 ≤ z) →
    o.Pairwise (fun a b => b ≤ a) → S ≤ topS o c → S + sgnD ag (Dsum vs ws) (Dsum xs ws) ≤ topS ((vs.zip ws).foldl (fun o p => insD o (effX ag p)) o) (c + chgN vs xs) := by
  intro vs
  induction vs with
  | nil =>
    intro xs ws o S c h1 h2 _ _ _ _ hS
    match xs, ws, h1, h2 with
    | [], [], _, _ => simp [Dsum, sumI, sgnD, chgN]; exact hS
  | cons v vs ih =>
    intro xs ws o S c h1 h2 hv hx hw ho hS
    match xs, ws, h1, h2 with
    | x :: xs, w :: ws, h1, h2 =>
      have hw0 := hw w (List.mem_cons_self ..)
      have bv := voteB_true (hv v (List.mem_cons_self ..))
      have bx := voteB_true (hx x (List.mem_cons_self ..))
      have he : 0 ≤ effX ag (v, w) := by unfold effX; split <;> (try split) <;> simp <;> omega
      obtain ⟨t1, t2⟩ := top_ins ho he c
      have ho' := insD_sorted ho (effX ag (v, w))
      simp only [List.length_cons, Nat.add_right_cancel_iff] at h1 h2
      have key : ∀ (T : Int) (q : Nat), S + T ≤ topS (insD o (effX ag (v, w))) q → (S + T) + sgnD ag (Dsum vs ws) (Dsum xs ws) ≤ topS ((vs.zip ws).foldl (fun o p => insD o (effX ag p)) (insD o (effX ag (v, w)))) (q + chgN vs xs) :=
        fun T q hq => ih xs ws _ _ q h1 h2 (fun z hz => hv z (List.mem_cons_of_mem _ hz)) (fun z hz => hx z (List.mem_cons_of_mem _ hz)) (fun z hz => hw z (List.mem_cons_of_mem _ hz)) ho' hq
      have eD : ∀ (a : Int) (as_ : List Int), Dsum (a :: as_) (w :: ws) = score (a, w) + Dsum as_ ws := fun a as_ => by simp [Dsum, sumI]
      have eS : sgnD ag (Dsum (v :: vs) (w :: ws)) (Dsum (x :: xs) (w :: ws)) = sgnD ag (score (v, w)) (score (x, w)) + sgnD ag (Dsum vs ws) (Dsum xs ws) := by
        rw [eD, eD]; unfold sgnD; split <;> omega
      rw [List.zip_cons_cons, List.foldl_cons, eS]
      by_cases hvx : v = x
      · have e0 : sgnD ag (score (v, w)) (score (x, w)) = 0 := by rw [hvx]; unfold sgnD; split <;> omega
        have ec : chgN (v :: vs) (x :: xs) = chgN vs xs := by simp [chgN, hvx]
        rw [e0, ec]
        have := key 0 c (by omega)
        omega
      · have ec : chgN (v :: vs) (x :: xs) = chgN vs xs + 1 := by simp [chgN, hvx]
        have hsc : sgnD ag (score (v, w)) (score (x, w)) ≤ effX ag (v, w) := by
          rcases hag with rfl | rfl <;> rcases (show v = 0 ∨ v = 1 ∨ v = 2 by omega) with rfl | rfl | rfl <;> rcases (show x = 0 ∨ x = 1 ∨ x = 2 by omega) with rfl | rfl | rfl <;> simp [sgnD, score, effX] <;> omega
        have := key (sgnD ag (score (v, w)) (score (x, w))) (c + 1) (by omega)
        rw [ec, show c + (chgN vs xs + 1) = c + 1 + chgN vs xs by omega]
        omega
/-- Votes with another result differ in as many places as the margin says. -/
theorem flip_needs {vs xs ws : List Int} (h1 : vs.length = xs.length) (h2 : vs.length = ws.length) (hv : ∀ z ∈ vs, voteB z = true) (hx : ∀ z ∈ xs, voteB z = true) (hw : ∀ z ∈ ws, 0 ≤ z) (hne : adopt xs ws ≠ adopt vs ws) :
    0 < marg vs ws ∧ marg vs ws ≤ chgN vs xs := by
  rw [← marg_effects hw]
  have hn := mNeed_D (ws := ws) hv
  have ha := mAg_D (ws := ws) hv
  rw [adopt_D hv, adopt_D hx] at hne
  have main : ∀ ag, (ag = 0 ∨ ag = 1) → mNeed vs ws ≤ sgnD ag (Dsum vs ws) (Dsum xs ws) → 0 < cutF (mNeed vs ws) 0 (effects ag vs ws) ∧ cutF (mNeed vs ws) 0 (effects ag vs ws) ≤ chgN vs xs := by
    intro ag hag h
    have := eff_sum ag hag vs xs ws [] 0 0 h1 h2 hv hx hw .nil (by simp [topS, sumI])
    rw [Int.zero_add, Nat.zero_add] at this
    have c := cut_of_top (effects ag vs ws) (mNeed vs ws) 0 (chgN vs xs) (mNeed_pos vs ws) (Int.le_trans h this)
    simpa using c
  by_cases hD : 0 < Dsum vs ws
  · rw [if_pos hD] at hn ha
    rw [ha]
    refine main 1 (.inr rfl) ?_
    have : ¬ 0 < Dsum xs ws := fun h => hne (by simp [hD, h])
    rw [hn]; unfold sgnD; rw [if_pos rfl]; omega
  · rw [if_neg hD] at hn ha
    rw [ha]
    refine main 0 (.inl rfl) ?_
    have : 0 < Dsum xs ws := by
      rcases Int.lt_or_le 0 (Dsum xs ws) with h | h
      · exact h
      · exact absurd (by simp [hD]; omega) hne
    rw [hn]; unfold sgnD; rw [if_neg (by decide)]; omega
/-! ### The greatest changes suffice -/
theorem cutF_shift (N : Int) (L : List Int) : ∀ (N k : Int), 0 ≤ k → (cutF N k L = -1 ∧ cutF N (k + 1) L = -1) ∨ (0 < cutF N k L ∧ cutF N (k + 1) L = cutF N k L + 1) := by
  induction L with
  | nil => intro N k h; exact .inl ⟨rfl, rfl⟩
  | cons x xs ih =>
    intro N k h
    unfold cutF
    split
    · exact .inr ⟨by omega, rfl⟩
    · exact ih (N - x) (k + 1) (by omega)
/-- What the search for the next vote to be changed holds each vote to be worth. -/
def xval (to : Int) (p : Int × Int) : Int := if p.1 = to then -1 else if p.1 = 2 then p.2 else 2 * p.2
structure Best (to : Int) (vs ws : List Int) (j : Nat) (b : Nat) (m : Int) : Prop where
  hi : ∀ i p, i < j → (vs.zip ws)[i]? = some p → xval to p ≤ m
  at_ : (m = -1 ∧ b = 0) ∨ (b < j ∧ ∃ p, (vs.zip ws)[b]? = some p ∧ xval to p = m)
theorem Best.start (to : Int) (vs ws : List Int) : Best to vs ws 0 0 (-1) := ⟨fun i p h _ => absurd h (Nat.not_lt_zero _), .inl ⟨rfl, rfl⟩⟩
theorem Best.better {to : Int} {vs ws : List Int} {j b : Nat} {m : Int} {p : Int × Int} (h : Best to vs ws j b m) (hp : (vs.zip ws)[j]? = some p) (hx : m < xval to p) : Best to vs ws (j + 1) j (xval to p) := by
  refine ⟨fun i q hi hq => ?_, .inr ⟨by omega, p, hp, rfl⟩⟩
  rcases Nat.lt_or_ge i j with h1 | h1
  · have := h.hi i q h1 hq; omega
  · obtain rfl : i = j := by omega
    rw [hp] at hq; injection hq with hq; subst hq; exact Int.le_refl _
theorem Best.worse {to : Int} {vs ws : List Int} {j b : Nat} {m : Int} {p : Int × Int} (h : Best to vs ws j b m) (hp : (vs.zip ws)[j]? = some p) (hx : ¬ m < xval to p) : Best to vs ws (j + 1) b m := by
  refine ⟨fun i q hi hq => ?_, ?_⟩
  · rcases Nat.lt_or_ge i j with h1 | h1
    · exact h.hi i q h1 hq
    · obtain rfl : i = j := by omega
      rw [hp] at hq; injection hq with hq; subst hq; omega
  · rcases h.at_ with h1 | ⟨h1, h2⟩
    · exact .inl h1
    · exact .inr ⟨by omega, h2⟩
theorem map_zip_set (f : Int × Int → Int) {vs ws : List Int} {b : Nat} {v w t : Int} (h : (vs.zip ws)[b]? = some (v, w)) : ((vs.set b t).zip ws).map f = ((vs.zip ws).map f).set b (f (t, w)) := by
  apply List.ext_getElem?
  intro i
  rw [List.getElem?_zip_eq_some] at h
  rw [List.getElem?_map, List.getElem?_set, List.getElem?_map]
  by_cases hi : b = i
  · subst hi
    have hb := (List.getElem?_eq_some_iff.1 h.1).1
    have hb2 := (List.getElem?_eq_some_iff.1 h.2).1
    have : ((vs.set b t).zip ws)[b]? = some (t, w) := by rw [List.getElem?_zip_eq_some]; exact ⟨by rw [List.getElem?_set_self hb], h.2⟩
    rw [this, if_pos rfl, if_pos (by rw [List.length_map, List.length_zip]; omega)]
    rfl
  · rw [if_neg hi]
    congr 1
    rw [List.zip_eq_zipWith, List.zip_eq_zipWith, List.getElem?_zipWith, List.getElem?_zipWith, List.getElem?_set_ne hi]
theorem set_perm {M : List Int} {b : Nat} {e y : Int} (h : M[b]? = some e) : ∃ R : List Int, M.Perm (e :: R) ∧ (M.set b y).Perm (y :: R) := by
  have hb := (List.getElem?_eq_some_iff.1 h).1
  have he : M[b] = e := (List.getElem?_eq_some_iff.1 h).2
  refine ⟨M.take b ++ M.drop (b + 1), ?_, ?_⟩
  · conv => lhs; rw [← List.take_append_drop b M, List.drop_eq_getElem_cons hb, he]
    exact List.perm_middle
  · rw [List.set_eq_take_append_cons_drop, if_pos hb]
    exact List.perm_middle
/-- The next vote is changed: either the result is another one, or one change less is needed. -/
theorem greedy_step {vs ws : List Int} {b : Nat} {m r : Int} (hl : vs.length = ws.length) (hv : ∀ z ∈ vs, voteB z = true) (hw : ∀ z ∈ ws, 0 ≤ z) (hr : marg vs ws = r) (h0 : 0 < r)
    (hb : Best (if adopt vs ws then 0 else 1) vs ws vs.length b m) :
    b < vs.length ∧ (r = 1 → adopt (vs.set b (if adopt vs ws then 0 else 1)) ws ≠ adopt vs ws) ∧ (r ≠ 1 → adopt (vs.set b (if adopt vs ws then 0 else 1)) ws = adopt vs ws ∧ marg (vs.set b (if adopt vs ws then 0 else 1)) ws = r - 1) := by
  have hn := mNeed_D (ws := ws) hv
  have ha := mAg_D (ws := ws) hv
  have hA := adopt_D (ws := ws) hv
  have npos := mNeed_pos vs ws
  obtain ⟨to, hto⟩ : ∃ t, (if adopt vs ws then (0 : Int) else 1) = t := ⟨_, rfl⟩
  rw [hto] at hb ⊢
  have hto2 : mAg vs ws = 1 - to ∧ (to = 0 ∨ to = 1) := by
    rw [← hto, ha, hA]
    by_cases h : 0 < Dsum vs ws <;> simp [h]
  obtain ⟨hag, ht01⟩ := hto2
  obtain ⟨ag, hagd⟩ : ∃ a, mAg vs ws = a := ⟨_, rfl⟩
  rw [hagd] at hag
  have hM := marg_effects (vs := vs) hw
  rw [hagd, hr] at hM
  obtain ⟨eS, eP⟩ := effects_fold ag (vs.zip ws) [] .nil
  rw [List.nil_append] at eP
  change (effects ag vs ws).Pairwise _ at eS
  change (effects ag vs ws).Perm _ at eP
  have enn : ∀ z ∈ (vs.zip ws).map (effX ag), 0 ≤ z := by
    intro z hz
    obtain ⟨p, hp, rfl⟩ := List.mem_map.1 hz
    have := hw p.2 (List.of_mem_zip (a := p.1) (b := p.2) hp).2
    unfold effX; split <;> (try split) <;> omega
  have voff : ∀ p : Int × Int, p.1 ≠ to → voteB p.1 = true → xval to p = effX ag p := by
    intro p h1 h2
    have := voteB_true h2
    unfold xval effX
    rw [if_neg h1]
    rcases ht01 with rfl | rfl
    · by_cases h3 : p.1 = 2
      · rw [if_pos h3, if_neg (by omega), if_pos h3]
      · rw [if_neg h3, if_pos (by omega)]
    · by_cases h3 : p.1 = 2
      · rw [if_pos h3, if_neg (by omega), if_pos h3]
      · rw [if_neg h3, if_pos (by omega)]
  have zoff : ∀ w : Int, effX ag (to, w) = 0 := by
    intro w
    unfold effX
    rcases ht01 with rfl | rfl
    · rw [if_neg (by show (0 : Int) ≠ ag; omega), if_neg (by show ¬ (0 : Int) = 2; decide)]
    · rw [if_neg (by show (1 : Int) ≠ ag; omega), if_neg (by show ¬ (1 : Int) = 2; decide)]
  cases hE : effects ag vs ws with
  | nil => rw [hE] at hM; simp [cutF] at hM; omega
  | cons e rest =>
    rw [hE] at hM eS eP
    have e0 : 0 ≤ e := enn e (eP.mem_iff.1 (List.mem_cons_self ..))
    have rle : ∀ z ∈ rest, 0 ≤ z ∧ z ≤ e := fun z hz => ⟨enn z (eP.mem_iff.1 (List.mem_cons_of_mem _ hz)), (List.pairwise_cons.1 eS).1 z hz⟩
    have epos : 0 < e := by
      rcases Int.lt_or_eq_of_le e0 with h | h
      · exact h
      · exfalso
        subst h
        have : (0 :: rest) = List.replicate (rest.length + 1) (0 : Int) := by
          rw [List.eq_replicate_iff]
          refine ⟨rfl, fun z hz => ?_⟩
          rcases List.mem_cons.1 hz with h | h
          · exact h
          · have := rle z h; omega
        rw [this, cutF_zeros _ _ _ npos] at hM
        omega
    -- the best vote is worth e
    obtain ⟨p0, hp0, hx0⟩ := List.mem_map.1 (eP.mem_iff.1 (List.mem_cons_self ..))
    obtain ⟨i0, hi0, he0⟩ := List.getElem_of_mem hp0
    have hz0 : (vs.zip ws)[i0]? = some p0 := by rw [List.getElem?_eq_getElem hi0, he0]
    have hvot : ∀ (i : Nat) (p : Int × Int), (vs.zip ws)[i]? = some p → voteB p.1 = true := fun i p h => hv p.1 (List.of_mem_zip (a := p.1) (b := p.2) (List.mem_of_getElem? h)).1
    have hne0 : p0.1 ≠ to := fun h => by
      have : effX ag p0 = 0 := by have := zoff p0.2; rw [← h] at this; exact this
      omega
    have hm : e ≤ m := by
      have := hb.hi i0 p0 (by rw [List.length_zip] at hi0; omega) hz0
      rw [voff p0 hne0 (hvot _ _ hz0), hx0] at this
      exact this
    rcases hb.at_ with ⟨h1, _⟩ | ⟨hbl, p, hp, hxp⟩
    · omega
    · have hpn : p.1 ≠ to := fun h => by
        have : xval to p = -1 := by unfold xval; rw [if_pos h]
        omega
      have hxe : effX ag p = m := (voff p hpn (hvot _ _ hp)).symm.trans hxp
      have hme : m ≤ e := by
        have : m ∈ (e :: rest) := eP.mem_iff.2 (List.mem_map.2 ⟨p, List.mem_of_getElem? hp, hxe⟩)
        rcases List.mem_cons.1 this with h | h
        · omega
        · exact (rle m h).2
      obtain rfl : m = e := by omega
      obtain ⟨v, w⟩ := p
      have hMb : ((vs.zip ws).map (effX ag))[b]? = some m := by rw [List.getElem?_map, hp]; simp [hxe]
      have hSb : ((vs.zip ws).map score)[b]? = some (score (v, w)) := by rw [List.getElem?_map, hp]; rfl
      have hD : Dsum (vs.set b to) ws = Dsum vs ws - score (v, w) + score (to, w) := by
        unfold Dsum; rw [map_zip_set score hp]; exact sumI_set _ _ _ _ hSb
      have hsc : sgnD ag (score (v, w)) (score (to, w)) = m := by
        have bv := voteB_true (hvot _ _ hp)
        simp only [] at bv hpn
        rw [← hxe]
        rcases ht01 with rfl | rfl
        · obtain rfl : ag = 1 := by omega
          rcases (show v = 1 ∨ v = 2 by omega) with rfl | rfl <;> simp [sgnD, score, effX] <;> omega
        · obtain rfl : ag = 0 := by omega
          rcases (show v = 0 ∨ v = 2 by omega) with rfl | rfl <;> simp [sgnD, score, effX] <;> omega
      have hv' : ∀ z ∈ vs.set b to, voteB z = true := by
        intro z hz
        rcases List.mem_or_eq_of_mem_set hz with hz | rfl
        · exact hv z hz
        · rcases ht01 with rfl | rfl <;> decide
      -- the other effects are what they were
      have hE' : effects ag (vs.set b to) ws = rest ++ [0] := by
        obtain ⟨fS, fP⟩ := effects_fold ag ((vs.set b to).zip ws) [] .nil
        rw [List.nil_append, map_zip_set (effX ag) hp, zoff w] at fP
        obtain ⟨R, q1, q2⟩ := set_perm (y := 0) hMb
        have q3 : rest.Perm R := List.Perm.cons_inv (eP.trans q1)
        refine List.Perm.eq_of_pairwise (le := fun a b : Int => b ≤ a) (fun a b _ _ h k => Int.le_antisymm k h) fS ?_ ?_
        · rw [List.pairwise_append]
          exact ⟨(List.pairwise_cons.1 eS).2, List.pairwise_singleton _ _, fun a ha b hb => by simp at hb; subst hb; exact (rle a ha).1⟩
        · refine fP.trans (q2.trans ((q3.symm.cons 0).trans ?_))
          exact (List.perm_append_comm (l₁ := [0]) (l₂ := rest))
      have hn' := mNeed_D (ws := ws) hv'
      have ha' := mAg_D (ws := ws) hv'
      have hA' := adopt_D (ws := ws) hv'
      have hM' := marg_effects (vs := vs.set b to) hw
      refine ⟨hbl, ?_⟩
      unfold cutF at hM
      rw [Int.zero_add] at hM
      have hsh := cutF_shift 0 rest (mNeed vs ws - m) 0 (Int.le_refl _)
      rw [Int.zero_add] at hsh
      rw [hA, hA']
      by_cases hpos : 0 < Dsum vs ws
      · rw [if_pos hpos] at hn ha
        have hto0 : to = 0 := by omega
        have hag1 : ag = 1 := by omega
        have hs2 : score (v, w) - score (to, w) = m := by rw [← hsc]; unfold sgnD; rw [if_pos hag1]
        split at hM
        · exact ⟨fun _ => by simp [hpos]; omega, fun h => absurd hM.symm h⟩
        · have hpos' : 0 < Dsum (vs.set b to) ws := by omega
          rw [if_pos hpos'] at hn' ha'
          have : marg (vs.set b to) ws = cutF (mNeed vs ws - m) 0 rest := by
            rw [← hM', ha', ← hag1, hE', show mNeed (vs.set b to) ws = mNeed vs ws - m by omega]
            exact cutF_append 1 _ _ _ (by omega)
          rw [this]
          exact ⟨fun h => by omega, fun _ => ⟨by simp [hpos, hpos'], by omega⟩⟩
      · rw [if_neg hpos] at hn ha
        have hto1 : to = 1 := by omega
        have hag0 : ag = 0 := by omega
        have hs2 : score (to, w) - score (v, w) = m := by rw [← hsc]; unfold sgnD; rw [if_neg (by omega)]
        split at hM
        · exact ⟨fun _ => by simp [hpos]; omega, fun h => absurd hM.symm h⟩
        · have hpos' : ¬ 0 < Dsum (vs.set b to) ws := by omega
          rw [if_neg hpos'] at hn' ha'
          have : marg (vs.set b to) ws = cutF (mNeed vs ws - m) 0 rest := by
            rw [← hM', ha', ← hag0, hE', show mNeed (vs.set b to) ws = mNeed vs ws - m by omega]
            exact cutF_append 1 _ _ _ (by omega)
          rw [this]
          exact ⟨fun h => by omega, fun _ => ⟨by simp [hpos, hpos'], by omega⟩⟩
end Go.Proofs.Ytfanjnoaifhnnaa
