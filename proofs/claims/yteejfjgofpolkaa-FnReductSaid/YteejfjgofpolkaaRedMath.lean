/- The reduct by a complete set: admissible sets and preferred sets. No program. -/
import Derived.Test.YteejfjgofpolkaaStMath
namespace Go.Proofs.Yteejfjgofpolkaa
set_option linter.unusedVariables false
set_option linter.unusedSimpArgs false
open Go.RowKit
theorem nodup_len {α : Type} [DecidableEq α] : ∀ {l m : List α}, l.Nodup → (∀ x ∈ l, x ∈ m) → l.length ≤ m.length
  | [], _, _, _ => Nat.zero_le _
  | a :: l, m, h, hs => by
    have ha := hs a List.mem_cons_self
    have hn := (List.pairwise_cons.1 h)
    have ih := nodup_len (l := l) (m := m.erase a) hn.2 fun x hx => (List.mem_erase_of_ne (fun e => hn.1 x hx e.symm)).2 (hs x (List.mem_cons_of_mem _ hx))
    have hl := List.length_erase_of_mem ha
    have := List.length_pos_of_mem ha
    simp only [List.length_cons]
    omega
theorem nodup_eqlen {α : Type} [DecidableEq α] {l m : List α} (h : l.Nodup) (k : m.Nodup) (hs : ∀ x, x ∈ l ↔ x ∈ m) : l.length = m.length :=
  Nat.le_antisymm (nodup_len h fun x hx => (hs x).1 hx) (nodup_len k fun x hx => (hs x).2 hx)
/-- What is left of a frame beside a complete set. -/
structure Red (n : Nat) (es : List (Nat × Nat)) (E : Nat) (nm : List Nat) (k : Nat) (es' : List (Nat × Nat)) : Prop where
  ok : FrOk n es
  Elt : E < 2 ^ n
  comp : compB n es E = true
  len : nm.length = k
  nd : nm.Nodup
  mem : ∀ a, a ∈ nm ↔ a < n ∧ E.testBit a = false ∧ (hitM es E).testBit a = false
  ok' : FrOk k es'
  edge : ∀ i j a b, nm[i]? = some a → nm[j]? = some b → ((i, j) ∈ es' ↔ (a, b) ∈ es)
/-- The set that a set of the reduct stands for. -/
def upM (n E : Nat) (nm : List Nat) (S : Nat) : Nat := mk (fun a => E.testBit a || (List.range nm.length).any fun i => decide (nm[i]? = some a) && S.testBit i) n
section
variable {n : Nat} {es : List (Nat × Nat)} {E : Nat} {nm : List Nat} {k : Nat} {es' : List (Nat × Nat)}
theorem Red.src (h : Red n es E nm k es') {a b : Nat} (hab : (a, b) ∈ es) : a < n ∧ b < n := h.ok.inn _ hab
theorem Red.goo (h : Red n es E nm k es') : Goo es E := ((compB_iff h.ok h.Elt).1 h.comp).1
theorem Red.up_bit (h : Red n es E nm k es') (S a : Nat) : (upM n E nm S).testBit a = true ↔ E.testBit a = true ∨ ∃ i, nm[i]? = some a ∧ S.testBit i = true := by
  unfold upM
  rw [mk_bit, Bool.and_eq_true, decide_eq_true_eq, Bool.or_eq_true, List.any_eq_true]
  constructor
  · rintro ⟨_, h1 | ⟨i, hi, h2⟩⟩
    · exact .inl h1
    · rw [Bool.and_eq_true, decide_eq_true_eq] at h2
      exact .inr ⟨i, h2⟩
  · rintro (h1 | ⟨i, h1, h2⟩)
    · exact ⟨bit_lt h.Elt h1, .inl h1⟩
    · have hi := (List.getElem?_eq_some_iff.1 h1).1
      exact ⟨((h.mem a).1 (List.mem_of_getElem? h1)).1, .inr ⟨i, List.mem_range.2 hi, by rw [Bool.and_eq_true, decide_eq_true_eq]; exact ⟨h1, h2⟩⟩⟩
theorem Red.inj (h : Red n es E nm k es') {i j a : Nat} (hi : nm[i]? = some a) (hj : nm[j]? = some a) : i = j := by
  obtain ⟨i1, i2⟩ := List.getElem?_eq_some_iff.1 hi
  obtain ⟨j1, j2⟩ := List.getElem?_eq_some_iff.1 hj
  have := List.pairwise_iff_getElem.1 h.nd
  rcases Nat.lt_trichotomy i j with hl | he | hl
  · exact absurd (i2.trans j2.symm) (this i j i1 j1 hl)
  · exact he
  · exact absurd (j2.trans i2.symm) (this j i j1 i1 hl)
theorem Red.up_nm (h : Red n es E nm k es') {S i a : Nat} (hi : nm[i]? = some a) : (upM n E nm S).testBit a = true ↔ S.testBit i = true := by
  rw [h.up_bit]
  constructor
  · rintro (h1 | ⟨j, h1, h2⟩)
    · have := ((h.mem a).1 (List.mem_of_getElem? hi)).2.1
      rw [h1] at this
      exact absurd this (by simp)
    · rwa [h.inj hi h1]
  · exact fun h1 => .inr ⟨i, hi, h1⟩
theorem Red.up_E (h : Red n es E nm k es') (S : Nat) : Sbs E (upM n E nm S) := fun a ha => (h.up_bit S a).2 (.inl ha)
theorem Red.up_lt (h : Red n es E nm k es') (S : Nat) : upM n E nm S < 2 ^ n := mk_lt _ _
/-- An argument left is not attacked by the set. -/
theorem Red.safe (h : Red n es E nm k es') {a b : Nat} (ha : a ∈ nm) (hb : (b, a) ∈ es) : E.testBit b = false := by
  cases e : E.testBit b
  · rfl
  · have := ((h.mem a).1 ha).2.2
    rw [(hitM_bit es E a).2 ⟨b, hb, e⟩] at this
    exact absurd this (by simp)
/-- And attacks it not. -/
theorem Red.safe2 (h : Red n es E nm k es') {a b : Nat} (ha : a ∈ nm) (hb : (a, b) ∈ es) : E.testBit b = false := by
  cases e : E.testBit b
  · rfl
  · obtain ⟨c, hc, hcE⟩ := h.goo.2 b e a hb
    have := h.safe ha hc
    rw [hcE] at this
    exact absurd this (by simp)
theorem Red.goo_iff (h : Red n es E nm k es') {S : Nat} (hS : S < 2 ^ k) : Goo es (upM n E nm S) ↔ Goo es' S := by
  have at_ : ∀ i, S.testBit i = true → ∃ a, nm[i]? = some a := fun i hi => ⟨_, List.getElem?_eq_getElem (by rw [h.len]; exact bit_lt hS hi)⟩
  have at2 : ∀ {i j}, (i, j) ∈ es' → ∃ a b, nm[i]? = some a ∧ nm[j]? = some b := fun {i j} hij => by
    have := h.ok'.inn _ hij
    exact ⟨_, _, List.getElem?_eq_getElem (by rw [h.len]; exact this.1), List.getElem?_eq_getElem (by rw [h.len]; exact this.2)⟩
  constructor
  · rintro ⟨f, d⟩
    refine ⟨fun i j hij hi hj => ?_, fun i hi j hji => ?_⟩
    · obtain ⟨a, b, ha, hb⟩ := at2 hij
      exact f a b ((h.edge i j a b ha hb).1 hij) ((h.up_nm ha).2 hi) ((h.up_nm hb).2 hj)
    · obtain ⟨b, a, hb, ha⟩ := at2 hji
      obtain ⟨c, hc, hcT⟩ := d a ((h.up_nm ha).2 hi) b ((h.edge j i b a hb ha).1 hji)
      rcases (h.up_bit S c).1 hcT with h1 | ⟨q, hq, hqS⟩
      · have := h.safe (List.mem_of_getElem? hb) hc
        rw [h1] at this
        exact absurd this (by simp)
      · exact ⟨q, (h.edge q j c b hq hb).2 hc, hqS⟩
  · rintro ⟨f, d⟩
    refine ⟨fun a b hab ha hb => ?_, fun a ha b hba => ?_⟩
    · rcases (h.up_bit S a).1 ha with h1 | ⟨i, hi, hiS⟩ <;> rcases (h.up_bit S b).1 hb with h2 | ⟨j, hj, hjS⟩
      · exact h.goo.1 a b hab h1 h2
      · have := h.safe (List.mem_of_getElem? hj) hab
        rw [h1] at this
        exact absurd this (by simp)
      · have := h.safe2 (List.mem_of_getElem? hi) hab
        rw [h2] at this
        exact absurd this (by simp)
      · exact f i j ((h.edge i j a b hi hj).2 hab) hiS hjS
    · rcases (h.up_bit S a).1 ha with h1 | ⟨i, hi, hiS⟩
      · obtain ⟨c, hc, hcE⟩ := h.goo.2 a h1 b hba
        exact ⟨c, hc, h.up_E S c hcE⟩
      · have hbE := h.safe (List.mem_of_getElem? hi) hba
        cases hh : (hitM es E).testBit b
        · have hbn : b ∈ nm := (h.mem b).2 ⟨(h.src hba).1, hbE, hh⟩
          obtain ⟨j, hj⟩ := List.mem_iff_getElem?.1 hbn
          obtain ⟨q, hq, hqS⟩ := d i hiS j ((h.edge j i b a hj hi).2 hba)
          obtain ⟨c, hc⟩ := at_ q hqS
          exact ⟨c, (h.edge q j c b hc hj).1 hq, (h.up_nm hc).2 hqS⟩
        · obtain ⟨c, hc, hcE⟩ := (hitM_bit es E b).1 hh
          exact ⟨c, hc, h.up_E S c hcE⟩
theorem Red.good_iff (h : Red n es E nm k es') {S : Nat} (hS : S < 2 ^ k) : goodB n es (upM n E nm S) = goodB k es' S := by
  rw [Bool.eq_iff_iff, goodB_iff h.ok (h.up_lt S), goodB_iff h.ok' hS]
  exact h.goo_iff hS
theorem Red.sbs_iff (h : Red n es E nm k es') {S T : Nat} (hS : S < 2 ^ k) : Sbs (upM n E nm S) (upM n E nm T) ↔ Sbs S T := by
  constructor
  · intro hs i hi
    have : nm[i]? = some (nm[i]'(by rw [h.len]; exact bit_lt hS hi)) := List.getElem?_eq_getElem _
    exact (h.up_nm this).1 (hs _ ((h.up_nm this).2 hi))
  · intro hs a ha
    rcases (h.up_bit S a).1 ha with h1 | ⟨i, hi, hiS⟩
    · exact h.up_E T a h1
    · exact (h.up_nm hi).2 (hs i hiS)
theorem sbs_anti {a b : Nat} (h : Sbs a b) (k : Sbs b a) : a = b := Nat.eq_of_testBit_eq fun i => by
  rw [Bool.eq_iff_iff]; exact ⟨h i, k i⟩
theorem Red.onto (h : Red n es E nm k es') {T : Nat} (hT : T < 2 ^ n) (hg : Goo es T) (hs : Sbs E T) : ∃ S, S < 2 ^ k ∧ upM n E nm S = T := by
  refine ⟨Go.Proofs.Yteejfjgofpolkaa.mk (fun i => T.testBit (nm.getD i 0)) k, mk_lt _ _, sbs_anti (fun a ha => ?_) (fun a ha => ?_)⟩
  · rcases (h.up_bit _ a).1 ha with h1 | ⟨i, hi, hiS⟩
    · exact hs a h1
    · rw [mk_bit, Bool.and_eq_true] at hiS
      have := hiS.2
      rwa [List.getD_eq_getElem?_getD, hi] at this
  · refine (h.up_bit _ a).2 ?_
    cases e : E.testBit a
    · refine .inr ?_
      have han : a ∈ nm := (h.mem a).2 ⟨bit_lt hT ha, e, by
        cases hh : (hitM es E).testBit a
        · rfl
        · obtain ⟨c, hc, hcE⟩ := (hitM_bit es E a).1 hh
          exact absurd ha (fun ha => hg.1 c a hc (hs c hcE) ha)⟩
      obtain ⟨i, hi⟩ := List.mem_iff_getElem?.1 han
      refine ⟨i, hi, ?_⟩
      rw [mk_bit, Bool.and_eq_true, decide_eq_true_eq]
      exact ⟨by rw [← h.len]; exact (List.getElem?_eq_some_iff.1 hi).1, by rw [List.getD_eq_getElem?_getD, hi]; exact ha⟩
    · exact .inl rfl
theorem Red.max_iff (h : Red n es E nm k es') {S : Nat} (hS : S < 2 ^ k) : Max n es (upM n E nm S) ↔ Max k es' S := by
  constructor
  · rintro ⟨g, mx⟩
    refine ⟨(h.goo_iff hS).1 g, fun p hp hg hs => ?_⟩
    have := mx (upM n E nm p) (h.up_lt p) ((h.goo_iff hp).2 hg) ((h.sbs_iff hS).2 hs)
    exact sbs_anti ((h.sbs_iff hp).1 (by rw [this]; exact Sbs.refl _)) hs
  · rintro ⟨g, mx⟩
    refine ⟨(h.goo_iff hS).2 g, fun p hp hg hs => ?_⟩
    obtain ⟨q, hq, rfl⟩ := h.onto hp hg ((h.up_E S).trans hs)
    rw [mx q hq ((h.goo_iff hq).1 hg) ((h.sbs_iff hS).1 hs)]
theorem Red.count (h : Red n es E nm k es') : ((prefM n es).filter fun m => decide (ldf E m = 0)).length = (prefM k es').length := by
  have e1 : ((prefM k es').map (upM n E nm)).length = (prefM k es').length := List.length_map _
  rw [← e1]
  refine nodup_eqlen ((allM_nodup n _).sublist List.filter_sublist) ?_ fun T => ?_
  · refine List.pairwise_map.2 (List.pairwise_iff_forall_sublist.2 fun {a b} hs => ?_)
    have hab := List.pairwise_iff_forall_sublist.1 (allM_nodup k (prefB k es')) hs
    have ha := (allM_mem.1 (hs.subset (by simp : a ∈ [a, b]))).1
    have hb := (allM_mem.1 (hs.subset (by simp : b ∈ [a, b]))).1
    exact fun e => hab (sbs_anti ((h.sbs_iff ha).1 (by rw [e]; exact Sbs.refl _)) ((h.sbs_iff hb).1 (by rw [e]; exact Sbs.refl _)))
  · rw [List.mem_filter, List.mem_map, decide_eq_true_eq]
    constructor
    · rintro ⟨hT, hs⟩
      obtain ⟨hTn, hTm⟩ := allM_mem.1 hT
      have hmx := prefB_iff.1 hTm
      obtain ⟨S, hS, rfl⟩ := h.onto hTn hmx.1 ((ldf_sbs h.ok h.Elt hTn).1 hs)
      exact ⟨S, allM_mem.2 ⟨hS, prefB_iff.2 ((h.max_iff hS).1 hmx)⟩, rfl⟩
    · rintro ⟨S, hS, rfl⟩
      obtain ⟨hSk, hSm⟩ := allM_mem.1 hS
      exact ⟨allM_mem.2 ⟨h.up_lt S, prefB_iff.2 ((h.max_iff hSk).2 (prefB_iff.1 hSm))⟩, (ldf_sbs h.ok h.Elt (h.up_lt S)).2 (h.up_E S)⟩
end
end Go.Proofs.Yteejfjgofpolkaa
