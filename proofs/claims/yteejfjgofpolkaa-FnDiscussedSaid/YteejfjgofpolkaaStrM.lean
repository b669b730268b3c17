/- A strategy holds for grounded arguments, and for each of them the one that is told is one. No program. -/
import Derived.Test.YteejfjgofpolkaaStrat2
import Derived.Test.YteejfjgofpolkaaDisc
namespace Go.Proofs.Yteejfjgofpolkaa
set_option linter.unusedVariables false
set_option linter.unusedSimpArgs false
set_option maxRecDepth 100000
open Go.RowKit
theorem pigeon : ∀ (n : Nat) (F : Nat → Int) (r : Nat), (∀ j : Nat, 1 ≤ j → j ≤ r → ∃ a, a < n ∧ F a = (j : Int)) → r ≤ n
  | 0, F, r, h => by
    by_cases hr : r = 0
    · omega
    · obtain ⟨a, ha, _⟩ := h 1 (by omega) (by omega)
      omega
  | n + 1, F, r, h => by
    by_cases hv : 1 ≤ F n ∧ F n ≤ r
    · have := pigeon n (fun a => if F n < F a then F a - 1 else F a) (r - 1) fun j h1 h2 => by
        by_cases hj : (j : Int) < F n
        · obtain ⟨a, ha, e⟩ := h j h1 (by omega)
          have hne : a ≠ n := fun e2 => by subst e2; omega
          refine ⟨a, by omega, ?_⟩
          show (if F n < F a then F a - 1 else F a) = _
          rw [if_neg (by omega), e]
        · obtain ⟨a, ha, e⟩ := h (j + 1) (by omega) (by omega)
          have hne : a ≠ n := fun e2 => by subst e2; omega
          refine ⟨a, by omega, ?_⟩
          show (if F n < F a then F a - 1 else F a) = _
          rw [if_pos (by omega), e]
          omega
      omega
    · have := pigeon n F r fun j h1 h2 => by
        obtain ⟨a, ha, e⟩ := h j h1 h2
        have hne : a ≠ n := fun e2 => by subst e2; omega
        exact ⟨a, by omega, e⟩
      omega
section
variable {n : Nat} {es : List (Nat × Nat)} {F : Nat → Int}
theorem rfin_le (ok : FrOk n es) (h : RFin n (attM es) F) {a : Nat} (ha : a < n) : F a ≤ n := by
  have hbn : ∀ a b, (attM es a).testBit b = true → b < n := fun a b h => (ok.inn _ ((attM_bit es a b).1 h)).1
  have down : ∀ k : Nat, ∀ j : Nat, 1 ≤ j → (∃ a, a < n ∧ F a = ((j + k : Nat) : Int)) → ∃ a, a < n ∧ F a = (j : Int) := fun k => by
    induction k with
    | zero => exact fun j _ h => h
    | succ k ih =>
      intro j hj ⟨a, ha, e⟩
      refine ih j hj ?_
      obtain ⟨p1, p2⟩ := h.pos a ha (by omega)
      rcases p2 with p2 | ⟨b, hb, p2⟩
      · omega
      · have hbn' := hbn a b hb
        obtain ⟨⟨c, hc, q⟩, _⟩ := h.neg b hbn' (p1 b hb).1
        exact ⟨c, hbn b c hc, by omega⟩
  by_cases hp : 0 < F a
  · obtain ⟨r, hr⟩ := Int.eq_ofNat_of_zero_le (show 0 ≤ F a by omega)
    have := pigeon n F r fun j h1 h2 => down (r - j) j h1 ⟨a, ha, by rw [hr]; congr 1; omega⟩
    omega
  · omega
/-- A strategy holds for accepted arguments only. -/
theorem str_sound (ok : FrOk n es) (h : RFin n (attM es) F) {a : Nat} (ha : a < n) {R Y : List Int} (s : StrP n es a R Y) : 0 < F a := by
  have key : ∀ k : Nat, ∀ x, x < n → R.getD x 0 ≠ 0 → R.getD x 0 ≤ (k : Int) → 0 < F x := fun k => by
    induction k with
    | zero =>
      intro x hx h0 h1
      have := (s.row x hx).1.1
      omega
    | succ k ih =>
      intro x hx h0 h1
      have neg : ∀ y, (attM es x).testBit y = true → F y < 0 := fun y hy => by
        have he := (attM_bit es x y).1 hy
        have hyn : y < n := (ok.inn _ he).1
        obtain ⟨g1, g2, g3, g4⟩ := s.rep x y he h0
        have hz : (Y.getD y 0).toNat < n := (ok.inn _ g2).1
        have hp := ih _ hz g3 (by omega)
        have hbit := (attM_bit es y _).2 g2
        rcases Int.lt_trichotomy (F y) 0 with q | q | q
        · exact q
        · exact absurd hp ((h.zer y hyn q).2 _ hbit)
        · have := ((h.pos y hyn q).1 _ hbit).1
          omega
      rcases Int.lt_trichotomy (F x) 0 with q | q | q
      · obtain ⟨⟨b, hb, e⟩, _⟩ := h.neg x hx q
        have := neg b hb
        omega
      · obtain ⟨⟨b, hb, e⟩, _⟩ := h.zer x hx q
        exact absurd (neg b hb) e
      · exact q
  have ra := s.row a ha
  exact key n a ha s.ra ra.1.2
theorem rp_best (b : Nat) (R : Nat → Int) {z : Nat} (hz : b.testBit z = true) (hR : R z ≠ 0) : ∀ k, z < k → ∃ q : Nat, rp b R k = q ∧ q < k ∧ b.testBit q = true ∧ R q ≠ 0 ∧ R q ≤ R z := by
  have inv : ∀ k, rp b R k = -1 ∨ ∃ q : Nat, rp b R k = q ∧ q < k ∧ b.testBit q = true ∧ R q ≠ 0 := fun k => by
    induction k with
    | zero => exact .inl rfl
    | succ k ih =>
      rw [rp_succ]
      by_cases hb : b.testBit k = true
      · rw [if_pos hb, rpf_def]
        by_cases hc : R (k : Int).toNat ≠ 0 ∧ (rp b R k < 0 ∨ R (k : Int).toNat < R (rp b R k).toNat)
        · rw [if_pos hc]
          exact .inr ⟨k, rfl, by omega, hb, by have := hc.1; rwa [Int.toNat_natCast] at this⟩
        · rw [if_neg hc]
          rcases ih with h | ⟨q, h1, h2, h3, h4⟩
          · exact .inl h
          · exact .inr ⟨q, h1, by omega, h3, h4⟩
      · rw [if_neg hb]
        rcases ih with h | ⟨q, h1, h2, h3, h4⟩
        · exact .inl h
        · exact .inr ⟨q, h1, by omega, h3, h4⟩
  intro k
  induction k with
  | zero => intro h; omega
  | succ k ih =>
    intro hk
    rw [rp_succ]
    by_cases e : z = k
    · subst e
      rw [if_pos hz, rpf_def, Int.toNat_natCast]
      rcases inv z with h | ⟨q, h1, h2, h3, h4⟩
      · rw [h, if_pos ⟨hR, .inl (by omega)⟩]
        exact ⟨z, rfl, by omega, hz, hR, Int.le_refl _⟩
      · rw [h1, Int.toNat_natCast]
        by_cases hc : R z ≠ 0 ∧ ((q : Int) < 0 ∨ R z < R q)
        · rw [if_pos hc]
          exact ⟨z, rfl, by omega, hz, hR, Int.le_refl _⟩
        · rw [if_neg hc]
          refine ⟨q, rfl, by omega, h3, h4, ?_⟩
          have : ¬ R z < R q := fun hl => hc ⟨hR, .inr hl⟩
          omega
    · obtain ⟨q, h1, h2, h3, h4, h5⟩ := ih (by omega)
      by_cases hb : b.testBit k = true
      · rw [if_pos hb, rpf_def, h1, Int.toNat_natCast, Int.toNat_natCast]
        by_cases hc : R k ≠ 0 ∧ ((q : Int) < 0 ∨ R k < R q)
        · rw [if_pos hc]
          refine ⟨k, rfl, by omega, hb, hc.1, ?_⟩
          rcases hc.2 with hl | hl
          · omega
          · omega
        · rw [if_neg hc]
          exact ⟨q, rfl, by omega, h3, h4, h5⟩
      · rw [if_neg hb]
        exact ⟨q, h1, by omega, h3, h4, h5⟩
theorem lst_getD {n a : Nat} (F : Nat → Int) (h : a < n) : (lst n F).getD a 0 = F a := by rw [List.getD_eq_getElem?_getD, lst_at F h]; rfl
/-- The strategy that is told is one. -/
theorem str_told (ok : FrOk n es) (h : RFin n (attM es) F) {a : Nat} (ha : a < n) (hp : 0 < F a) : StrP n es a (lst n (rkF F a)) (lst n fun b => rp (attM es b) (rkF F a) n) := by
  have hbn : ∀ a b, (attM es a).testBit b = true → b < n := fun a b h => (ok.inn _ ((attM_bit es a b).1 h)).1
  refine ⟨lst_len _ _, lst_len _ _, ?_, fun i hi => ?_, fun x y he h0 => ?_⟩
  · rw [lst_getD _ ha]
    unfold rkF
    rw [if_neg (by omega)]
    omega
  · unfold RowR
    rw [lst_getD _ hi, lst_getD _ hi]
    have h1 := rkF_nn F a i
    have h2 : rkF F a i ≤ n := by
      have := rfin_le ok h hi
      unfold rkF
      split <;> omega
    refine ⟨⟨h1, h2⟩, ?_⟩
    rcases rp_range (attM es i) (rkF F a) n with e | ⟨q, hq, e⟩
    · rw [e]; omega
    · rw [e]; omega
  · obtain ⟨hy, hx⟩ := ok.inn _ he
    have hy : y < n := hy
    have hx : x < n := hx
    rw [lst_getD _ hx] at h0
    have fx : 0 < F x ∧ F x ≤ F a ∧ rkF F a x = F x := by
      unfold rkF at h0 ⊢
      by_cases hc : F a < F x ∨ F x < 0
      · rw [if_pos hc] at h0; exact absurd rfl h0
      · rw [if_neg hc] at h0 ⊢
        omega
    obtain ⟨n1, n2⟩ := (h.pos x hx fx.1).1 y ((attM_bit es x y).2 he)
    obtain ⟨⟨z, hz, e⟩, _⟩ := h.neg y hy n1
    have hzn := hbn y z hz
    have rz : rkF F a z = F z := by
      unfold rkF
      rw [if_neg (by omega)]
    obtain ⟨q, h1, h2, h3, h4, h5⟩ := rp_best (attM es y) (rkF F a) hz (by rw [rz]; omega) n hzn
    unfold GoodR
    rw [lst_getD _ hy, h1, Int.toNat_natCast, lst_getD _ h2, lst_getD _ hx, fx.2.2]
    exact ⟨by omega, (attM_bit es y q).1 h3, h4, by omega⟩
/-- A step of a discussion: the reply exists, and its rank is less. -/
theorem disc_next {a : Nat} {R Y M : List Int} (ok : FrOk n es) (s : StrP n es a R Y) {x y : Nat} (hx : x < n) (hr : R.getD x 0 ≠ 0) (he : (y, x) ∈ es) :
    ∃ z : Nat, Y.getD y 0 = z ∧ z < n ∧ R.getD z 0 ≠ 0 ∧ 1 ≤ R.getD z 0 ∧ R.getD z 0 < R.getD x 0 := by
  obtain ⟨g1, g2, g3, g4⟩ := s.rep x y he hr
  obtain ⟨z, hz⟩ := Int.eq_ofNat_of_zero_le g1
  rw [hz, Int.toNat_natCast] at g2 g3 g4
  have hzn : z < n := (ok.inn _ g2).1
  have := (s.row z hzn).1.1
  exact ⟨z, hz, hzn, g3, by omega, g4⟩
end
end Go.Proofs.Yteejfjgofpolkaa
