/- Rounds that are counted: after n of them nothing changes. No program. -/
import Derived.Test.YteejfjgofpolkaaDung
namespace Go.Proofs.Yteejfjgofpolkaa
set_option linter.unusedVariables false
set_option linter.unusedSimpArgs false
open Go.RowKit
def cnt (F : Nat → Int) : Nat → Nat
  | 0 => 0
  | k + 1 => cnt F k + if F k = 0 then 0 else 1
theorem cnt_le (F : Nat → Int) : ∀ k, cnt F k ≤ k
  | 0 => Nat.le_refl _
  | k + 1 => by have := cnt_le F k; unfold cnt; split <;> omega
theorem cnt_mono {F G : Nat → Int} : ∀ k, (∀ a, a < k → F a ≠ 0 → G a ≠ 0) → cnt F k ≤ cnt G k
  | 0, _ => Nat.le_refl _
  | k + 1, h => by
    have ih := cnt_mono k fun a ha => h a (by omega)
    have hk := h k (by omega)
    unfold cnt
    by_cases h1 : F k = 0
    · rw [if_pos h1]; split <;> omega
    · rw [if_neg h1, if_neg (hk h1)]; omega
theorem cnt_lt {F G : Nat → Int} : ∀ k, (∀ a, a < k → F a ≠ 0 → G a ≠ 0) → ∀ a, a < k → F a = 0 → G a ≠ 0 → cnt F k < cnt G k
  | 0, _, a, ha, _, _ => by omega
  | k + 1, h, a, ha, h0, h1 => by
    by_cases e : a = k
    · subst e
      have := cnt_mono a fun b hb => h b (by omega)
      unfold cnt
      rw [if_pos h0, if_neg h1]; omega
    · have ih := cnt_lt k (fun b hb => h b (by omega)) a (by omega) h0 h1
      have hk := h k (by omega)
      unfold cnt
      by_cases h2 : F k = 0
      · rw [if_pos h2]; split <;> omega
      · rw [if_neg h2, if_neg (hk h2)]; omega
theorem cnt_full {F : Nat → Int} : ∀ k, k ≤ cnt F k → ∀ a, a < k → F a ≠ 0
  | 0, _, a, ha => by omega
  | k + 1, h, a, ha => by
    have h1 := cnt_le F k
    unfold cnt at h
    by_cases h2 : F k = 0
    · rw [if_pos h2] at h; omega
    · rw [if_neg h2] at h
      by_cases e : a = k
      · subst e; exact h2
      · exact cnt_full k (by omega) a (by omega)
theorem mk_congr {p q : Nat → Bool} : ∀ k, (∀ a, a < k → p a = q a) → mk p k = mk q k
  | 0, _ => rfl
  | k + 1, h => by
    unfold mk
    rw [h k (by omega), mk_congr k fun a ha => h a (by omega)]
theorem accM_congr {n : Nat} {F G : Nat → Int} (h : ∀ a, a < n → F a = G a) : accM n F = accM n G := mk_congr n fun a ha => by rw [h a ha]
theorem rejM_congr {n : Nat} {F G : Nat → Int} (h : ∀ a, a < n → F a = G a) : rejM n F = rejM n G := mk_congr n fun a ha => by rw [h a ha]
section
variable {n : Nat} {by_ : Nat → Nat} {F G : Nat → Int} {k : Int}
theorem RFin.congr (hbn : ∀ a b, (by_ a).testBit b = true → b < n) (e : ∀ a, a < n → F a = G a) (h : RFin n by_ F) : RFin n by_ G := by
  refine ⟨fun a ha => by rw [← e a ha]; exact h.bd a ha, fun a ha hp => ?_, fun a ha hp => ?_, fun a ha hp => ?_⟩
  · rw [← e a ha] at hp ⊢
    obtain ⟨p1, p2⟩ := h.pos a ha hp
    refine ⟨fun b hb => by rw [← e b (hbn a b hb)]; exact p1 b hb, ?_⟩
    rcases p2 with p2 | ⟨b, hb, p2⟩
    · exact .inl p2
    · exact .inr ⟨b, hb, by rw [← e b (hbn a b hb)]; exact p2⟩
  · rw [← e a ha] at hp ⊢
    obtain ⟨⟨b, hb, p1⟩, p2⟩ := h.neg a ha hp
    exact ⟨⟨b, hb, by rw [← e b (hbn a b hb)]; exact p1⟩, fun b hb => by rw [← e b (hbn a b hb)]; exact p2 b hb⟩
  · rw [← e a ha] at hp
    obtain ⟨⟨b, hb, p1⟩, p2⟩ := h.zer a ha hp
    exact ⟨⟨b, hb, by rw [← e b (hbn a b hb)]; exact p1⟩, fun b hb => by rw [← e b (hbn a b hb)]; exact p2 b hb⟩
def Stab (n : Nat) (by_ : Nat → Nat) (F : Nat → Int) : Prop := RFin n by_ F ∧ ∀ j : Int, 0 < j → ∀ a, a < n → nxt n by_ F j a = F a
theorem round_step (h : RInv n by_ F k) (hb : ∀ a, by_ a < 1024) (hbn : ∀ a b, (by_ a).testBit b = true → b < n) (hn : n ≤ 10) (hk : 0 < k) (hk2 : k ≤ 1024) :
    Stab n by_ F ∨ (RInv n by_ (nxt n by_ F k) (k + 1) ∧ cnt F n < cnt (nxt n by_ F k) n) := by
  have N := fun a ha => (nxt_of (F := F) (k := k) hb hbn hn hk a ha).1
  by_cases he : ∀ a, a < n → F a = 0 → nxt n by_ F k a = 0
  · left
    have S : ∀ a, a < n → nxt n by_ F k a = F a := fun a ha => by
      by_cases h0 : F a = 0
      · rw [he a ha h0, h0]
      · exact N a ha h0
    have heb : bef n (nxt n by_ F k) = bef n F := mask_eq (bef_lt _ _) (bef_lt _ _) fun i hi => by rw [bef_bit _ hi, bef_bit _ hi, S i hi]
    refine ⟨(h.fin hb hbn hn hk hk2 heb).congr hbn S, fun j hj => ?_⟩
    have c1 : ∀ a, a < n → F a = 0 → ¬ ldf (by_ a) (rejM n F) = 0 := fun a ha h0 hl => by
      have e : st1 n by_ F k a = k := if_pos ⟨h0, hl⟩
      have e2 : nxt n by_ F k a = k := by
        have : nxt n by_ F k a = st1 n by_ F k a := if_neg fun hh => by rw [e] at hh; omega
        rw [this, e]
      rw [he a ha h0] at e2
      omega
    have s1 : ∀ j : Int, ∀ a, a < n → st1 n by_ F j a = F a := fun j a ha => if_neg fun hh => c1 a ha hh.1 hh.2
    have c2 : ∀ a, a < n → F a = 0 → ¬ by_ a &&& accM n F ≠ 0 := fun a ha h0 hl => by
      have e : nxt n by_ F k a = -k := if_pos ⟨by rw [s1 k a ha]; exact h0, by rw [accM_congr (s1 k)]; exact hl⟩
      rw [he a ha h0] at e
      omega
    intro a ha
    have : nxt n by_ F j a = st1 n by_ F j a := if_neg fun hh => by
      rw [s1 j a ha, accM_congr (s1 j)] at hh
      exact c2 a ha hh.1 hh.2
    rw [this, s1 j a ha]
  · right
    refine ⟨h.next hb hbn hn hk, ?_⟩
    have : ∃ a, a < n ∧ F a = 0 ∧ nxt n by_ F k a ≠ 0 := Classical.byContradiction fun hx => he fun a ha h0 => Classical.byContradiction fun h1 => hx ⟨a, ha, h0, h1⟩
    obtain ⟨a, ha, h0, h1⟩ := this
    exact cnt_lt n (fun b hb' h => by rw [N b hb' h]; exact h) a ha h0 h1
/-- The state before round k, k - 1 rounds behind it. -/
def RSt (n : Nat) (by_ : Nat → Nat) (F : Nat → Int) (k : Nat) : Prop := Stab n by_ F ∨ (RInv n by_ F k ∧ k ≤ cnt F n + 1)
theorem RSt.start (n : Nat) (by_ : Nat → Nat) : RSt n by_ (fun _ => 0) 1 := .inr ⟨RInv.start n by_, by omega⟩
theorem RSt.next {k : Nat} (h : RSt n by_ F k) (hb : ∀ a, by_ a < 1024) (hbn : ∀ a b, (by_ a).testBit b = true → b < n) (hn : n ≤ 10) (hk : 0 < k) (hk2 : k ≤ 1024) :
    ∃ G, RSt n by_ G (k + 1) ∧ lst n (nxt n by_ F k) = lst n G ∧ accM n (nxt n by_ F k) = accM n G ∧ rejM n (nxt n by_ F k) = rejM n G := by
  have stab : Stab n by_ F → ∃ G, RSt n by_ G (k + 1) ∧ lst n (nxt n by_ F k) = lst n G ∧ accM n (nxt n by_ F k) = accM n G ∧ rejM n (nxt n by_ F k) = rejM n G := fun s => by
    have e := s.2 (k : Int) (by omega)
    exact ⟨F, .inl s, lst_congr e, accM_congr e, rejM_congr e⟩
  rcases h with h | ⟨h1, h2⟩
  · exact stab h
  · rcases round_step h1 hb hbn hn (by omega) (by omega) with h | ⟨h3, h4⟩
    · exact stab h
    · exact ⟨_, .inr ⟨h3, by omega⟩, rfl, rfl, rfl⟩
theorem RSt.fin (h : RSt n by_ F (n + 1)) (hn : n ≤ 10) : RFin n by_ F := by
  rcases h with h | ⟨h1, h2⟩
  · exact h.1
  · have nz := cnt_full (F := F) n (by omega)
    exact ⟨fun a ha => by have := h1.bd a ha; omega, h1.pos, h1.neg, fun a ha h0 => absurd h0 (nz a ha)⟩
theorem acc_new (hk : 0 < k) : accM n F ||| mk (fun a => decide (F a = 0 ∧ ldf (by_ a) (rejM n F) = 0)) n = accM n (st1 n by_ F k) := by
  refine mask_eq (Nat.or_lt_two_pow (mk_lt _ _) (mk_lt _ _)) (mk_lt _ _) fun i hi => ?_
  unfold accM
  rw [Nat.testBit_or, mk_bit, mk_bit, mk_bit]
  simp only [hi, decide_true, Bool.true_and]
  by_cases hc : F i = 0 ∧ ldf (by_ i) (rejM n F) = 0
  · rw [show st1 n by_ F k i = k from if_pos hc]
    simp [hc, hk]
  · rw [show st1 n by_ F k i = F i from if_neg hc]
    simp [hc]
theorem rej_new (hk : 0 < k) : rejM n F ||| mk (fun a => decide (F a = 0 ∧ by_ a &&& accM n F ≠ 0)) n = rejM n (st2 n by_ F k) := by
  refine mask_eq (Nat.or_lt_two_pow (mk_lt _ _) (mk_lt _ _)) (mk_lt _ _) fun i hi => ?_
  unfold rejM
  rw [Nat.testBit_or, mk_bit, mk_bit, mk_bit]
  simp only [hi, decide_true, Bool.true_and]
  by_cases hc : F i = 0 ∧ by_ i &&& accM n F ≠ 0
  · rw [show st2 n by_ F k i = -k from if_pos hc]
    simp [hc]; omega
  · rw [show st2 n by_ F k i = F i from if_neg hc, decide_eq_false hc]
    simp
end
theorem hit_and (es : List (Nat × Nat)) (x a : Nat) : (hitM es x).testBit a = decide (attM es a &&& x ≠ 0) := by
  rw [Bool.eq_iff_iff, hitM_bit, decide_eq_true_eq, Ne, and_zero]
  constructor
  · rintro ⟨b, h1, h2⟩ h
    have := h b ((attM_bit es a b).2 h1)
    rw [h2] at this
    exact absurd this (by simp)
  · intro h
    refine Classical.byContradiction fun hx => h fun b hb => ?_
    cases e : x.testBit b
    · rfl
    · exact (hx ⟨b, (attM_bit es a b).1 hb, e⟩).elim
end Go.Proofs.Yteejfjgofpolkaa
