/- A strongest path. No program. -/
import Derived.Test.YtikcbconfinibaaSp
namespace Go.Proofs.Ytikcbconfinibaa
set_option linter.unusedVariables false
def edgV (P : Nat → Nat → Int) (v : Int) (a b : Nat) : Bool := decide (P b a < P a b) && decide (v ≤ P a b)
theorem edgV_iff {P : Nat → Nat → Int} {v : Int} {a b : Nat} : edgV P v a b = true ↔ P b a < P a b ∧ v ≤ P a b := by
  unfold edgV
  simp
theorem SP.prefix {n f : Nat} {E : Nat → Nat → Bool} {p : List Nat} {a : Nat} (h : SP n E f p a) : ∀ x ∈ p, ∃ q, SP n E f q x := by
  induction h with
  | base => intro x hx; simp at hx; subst hx; exact ⟨_, .base⟩
  | snoc h h1 h2 h3 ih =>
    intro x hx
    rcases List.mem_append.1 hx with hx | hx
    · exact ih x hx
    · simp at hx; subst hx; exact ⟨_, .snoc h h1 h2 h3⟩
theorem reach {n : Nat} {P : Nat → Nat → Int} {B : Int} (hB : ∀ a b, P a b ≤ B) (hB0 : 0 ≤ B) {f t : Nat} (hf : f < n) (ht : t < n) (hne : f ≠ t) (h0 : 0 < strg n P f t) : ∃ p, SP n (edgV P (strg n P f t)) f p t := by
  obtain ⟨v, hv⟩ : ∃ v, strg n P f t = v := ⟨_, rfl⟩
  rw [hv] at h0 ⊢
  have key : ∀ (U : Nat → Nat → Int) (R : Nat → Prop), (∀ i, R i ↔ ∃ p, SP n (edgV P v) f p i) → (∀ i k, (R i → R k) → U i k = max B v) → (∀ i k, ¬ (R i → R k) → U i k = v - 1) → (R f → R t) := by
    intro U R hR h1 h2
    have hc : Clo n U := by
      intro i m k hi hm hk e1 e2 e3
      by_cases a : R i → R k
      · rw [h1 i k a]
        by_cases b : R i → R m
        · rw [h1 i m b]; omega
        · rw [h2 i m b]; omega
      · by_cases b : R i → R m
        · have c : ¬ (R m → R k) := fun c => a (fun x => c (b x))
          rw [h2 m k c, h2 i k a]; omega
        · rw [h2 i m b, h2 i k a]; omega
    have hi : ∀ i k, i < n → k < n → i ≠ k → ini P i k ≤ U i k := by
      intro i k hi hk e
      by_cases a : R i → R k
      · rw [h1 i k a]
        unfold ini
        have := hB i k
        split <;> omega
      · rw [h2 i k a]
        have hiR : R i := Classical.byContradiction fun x => a (fun y => absurd y x)
        have hkR : ¬ R k := fun x => a (fun _ => x)
        unfold ini
        by_cases hp : P k i < P i k
        · rw [if_pos hp]
          by_cases hq : v ≤ P i k
          · exfalso
            obtain ⟨p, hs⟩ := (hR i).1 hiR
            by_cases hm : k ∈ p
            · exact hkR ((hR k).2 (hs.prefix k hm))
            · exact hkR ((hR k).2 ⟨_, .snoc hs hk hm (edgV_iff.2 ⟨hp, hq⟩)⟩)
          · omega
        · rw [if_neg hp]; omega
    have := fw_le hc hi n (Nat.le_refl _) f t hf ht hne
    have hs : fw (ini P) n f t = v := hv
    rw [hs] at this
    apply Classical.byContradiction
    intro a
    rw [h2 f t a] at this
    omega
  classical
  have := key (fun i k => if (∃ p, SP n (edgV P v) f p i) → (∃ p, SP n (edgV P v) f p k) then max B v else v - 1) (fun i => ∃ p, SP n (edgV P v) f p i) (fun i => Iff.rfl) (fun i k a => if_pos a) (fun i k a => if_neg a)
  exact this ⟨_, .base⟩
/-- No path where the strength is nothing. -/
theorem SP.strong {n : Nat} {P S : Nat → Nat → Int} (hc : Clo n S) (hi : ∀ a b, a < n → b < n → a ≠ b → P b a < P a b → P a b ≤ S a b) {f : Nat} (hf : f < n) {v : Int} :
    ∀ {p : List Nat} {t : Nat}, SP n (edgV P v) f p t → f ≠ t → v ≤ S f t := by
  intro p t h
  induction h with
  | base => intro e; exact absurd rfl e
  | @snoc p a b h h1 h2 h3 ih =>
    intro e
    have e3 := edgV_iff.1 h3
    have ha := h.lt hf a (List.mem_of_getElem? h.last)
    have hab : a ≠ b := fun x => h2 (x ▸ List.mem_of_getElem? h.last)
    have k1 := hi a b ha h1 hab e3.1
    by_cases hfa : f = a
    · subst hfa; omega
    · have k2 := ih hfa
      have k3 := hc f a b hf ha h1 e (Ne.symm hfa) hab
      omega
def lsT (P : Nat → Nat → Int) (p : List Nat) : Nat → Int
  | 0 => 1000000
  | 1 => 1000000
  | i + 2 => if lsT P p (i + 1) < P (p.getD i 0) (p.getD (i + 1) 0) then lsT P p (i + 1) else P (p.getD i 0) (p.getD (i + 1) 0)
theorem getD_of {p : List Nat} {i x : Nat} (h : p[i]? = some x) : p.getD i 0 = x := by rw [List.getD_eq_getElem?_getD, h]; rfl
theorem SP.edge {n f : Nat} {E : Nat → Nat → Bool} {p : List Nat} {a : Nat} (h : SP n E f p a) : ∀ i x y, p[i]? = some x → p[i + 1]? = some y → E x y = true := by
  induction h with
  | base => intro i x y h1 h2; simp at h2
  | @snoc p a b h h1 h2 h3 ih =>
    intro i x y hx hy
    have hp := h.pos
    by_cases hi : i + 1 < p.length
    · rw [List.getElem?_append_left (by omega)] at hx
      rw [List.getElem?_append_left hi] at hy
      exact ih i x y hx hy
    · have hl : i + 1 = p.length := by
        have := (List.getElem?_eq_some_iff.1 hy).1
        simp at this
        omega
      rw [List.getElem?_append_left (by omega), show i = p.length - 1 by omega, h.last] at hx
      rw [hl, List.getElem?_append_right (Nat.le_refl _), Nat.sub_self] at hy
      simp at hx hy
      subst hx hy
      exact h3
theorem lsT_lo {P : Nat → Nat → Int} {p : List Nat} {v : Int} (hv : v ≤ 1000000) (he : ∀ i x y, p[i]? = some x → p[i + 1]? = some y → v ≤ P x y) : ∀ i, i ≤ p.length → v ≤ lsT P p i
  | 0, _ => hv
  | 1, _ => hv
  | i + 2, h => by
    have h1 := lsT_lo hv he (i + 1) (by omega)
    obtain ⟨x, hx⟩ : ∃ x, p[i]? = some x := ⟨_, List.getElem?_eq_getElem (by omega)⟩
    obtain ⟨y, hy⟩ : ∃ y, p[i + 1]? = some y := ⟨_, List.getElem?_eq_getElem (by omega)⟩
    have h2 := he i x y hx hy
    unfold lsT
    rw [getD_of hx, getD_of hy]
    split <;> omega
theorem lsT_le {P : Nat → Nat → Int} {p : List Nat} {i x y : Nat} (hx : p[i]? = some x) (hy : p[i + 1]? = some y) : lsT P p (i + 2) ≤ lsT P p (i + 1) ∧ lsT P p (i + 2) ≤ P x y := by
  have e : lsT P p (i + 2) = if lsT P p (i + 1) < P x y then lsT P p (i + 1) else P x y := by rw [lsT, getD_of hx, getD_of hy]
  rw [e]
  split <;> omega
theorem lsT_up {n : Nat} {P S : Nat → Nat → Int} (hc : Clo n S) (hi : ∀ a b, a < n → b < n → a ≠ b → P b a < P a b → P a b ≤ S a b) {f : Nat} (hf : f < n) {v : Int} {p : List Nat} {t : Nat} (h : SP n (edgV P v) f p t) :
    ∀ i x, p[i + 1]? = some x → lsT P p (i + 2) ≤ S f x
  | 0, y, hy => by
    have hx := h.first
    have e := edgV_iff.1 (h.edge 0 f y hx hy)
    have hne : f ≠ y := fun q => by subst q; omega
    have k1 := hi f y hf (h.lt hf y (List.mem_of_getElem? hy)) hne e.1
    have k2 := (lsT_le (P := P) hx hy).2
    exact Int.le_trans k2 k1
  | i + 1, y, hy => by
    obtain ⟨x, hx⟩ : ∃ x, p[i + 1]? = some x := ⟨_, List.getElem?_eq_getElem (by have := (List.getElem?_eq_some_iff.1 hy).1; omega)⟩
    have ih := lsT_up hc hi hf h i x hx
    have e := edgV_iff.1 (h.edge (i + 1) x y hx hy)
    have xn := h.lt hf x (List.mem_of_getElem? hx)
    have yn := h.lt hf y (List.mem_of_getElem? hy)
    have hxy : x ≠ y := fun q => by subst q; omega
    have nd := List.pairwise_iff_getElem.1 h.nodup
    obtain ⟨l0, g0⟩ := List.getElem?_eq_some_iff.1 h.first
    obtain ⟨l1, g1⟩ := List.getElem?_eq_some_iff.1 hx
    obtain ⟨l2, g2⟩ := List.getElem?_eq_some_iff.1 hy
    have hfx : f ≠ x := fun q => nd 0 (i + 1) l0 l1 (by omega) (by rw [g0, g1, q])
    have hfy : f ≠ y := fun q => nd 0 (i + 1 + 1) l0 l2 (by omega) (by rw [g0, g2, q])
    have k1 := hi x y xn yn hxy e.1
    have k2 := hc f x y hf xn yn hfy (Ne.symm hfx) hxy
    have k3 := lsT_le (P := P) hx hy
    exact Int.le_trans (Int.le_min.2 ⟨Int.le_trans k3.1 ih, Int.le_trans k3.2 k1⟩) k2
theorem lsT_eq {n : Nat} {P S : Nat → Nat → Int} (hc : Clo n S) (hi : ∀ a b, a < n → b < n → a ≠ b → P b a < P a b → P a b ≤ S a b) {f t : Nat} (hf : f < n) (hne : f ≠ t) (hb : S f t ≤ 1000000) {p : List Nat} (h : SP n (edgV P (S f t)) f p t) :
    2 ≤ p.length ∧ lsT P p p.length = S f t := by
  have h2 : 2 ≤ p.length := by
    cases h with
    | base => exact absurd rfl hne
    | snoc h h1 h2 h3 => have := h.pos; simp; omega
  refine ⟨h2, Int.le_antisymm ?_ ?_⟩
  · have := lsT_up hc hi hf h (p.length - 2) t (by rw [show p.length - 2 + 1 = p.length - 1 by omega]; exact h.last)
    rwa [show p.length - 2 + 2 = p.length by omega] at this
  · exact lsT_lo hb (fun i x y hx hy => (edgV_iff.1 (h.edge i x y hx hy)).2) _ (Nat.le_refl _)
end Go.Proofs.Ytikcbconfinibaa
