/- Pairs counted step by step; a winner that is raised stays a winner. No program. -/
import Derived.Test.YtikcbconfinibaaRkMath
namespace Go.Proofs.Ytikcbconfinibaa
set_option linter.unusedVariables false
/-- The pairs while a ranking is counted: i options behind, j of those that follow the next one. -/
def stP (B : Nat → Nat → Int) (v : Int) (r : List Nat) (i j a b : Nat) : Int := B a b + v * (pI r i a b + if r[i]? = some a then cnt ((r.drop (i + 1)).take j) b else 0)
theorem stP_zero (B : Nat → Nat → Int) (v : Int) (r : List Nat) (i a b : Nat) : stP B v r i 0 a b = B a b + v * pI r i a b := by
  unfold stP
  rw [List.take_zero, show cnt [] b = 0 from rfl]
  simp
theorem stP_end (B : Nat → Nat → Int) (v : Int) (r : List Nat) (i j a b : Nat) (h : r.length ≤ i + 1 + j) : stP B v r i j a b = B a b + v * pI r (i + 1) a b := by
  unfold stP
  rw [List.take_of_length_le (by rw [List.length_drop]; omega)]
  rfl
theorem stP_next (B : Nat → Nat → Int) (v : Int) (r : List Nat) {i j x y : Nat} (hx : r[i]? = some x) (hy : r[i + 1 + j]? = some y) (a b : Nat) :
    stP B v r i (j + 1) a b = if a = x ∧ b = y then stP B v r i j x y + v else stP B v r i j a b := by
  have hd : (r.drop (i + 1))[j]? = some y := by rw [List.getElem?_drop]; exact hy
  have ht : (r.drop (i + 1)).take (j + 1) = (r.drop (i + 1)).take j ++ [y] := by rw [List.take_add_one, hd]; rfl
  unfold stP
  rw [hx, ht, cnt_snoc]
  by_cases h1 : a = x
  · subst h1
    by_cases h2 : b = y
    · subst h2
      simp only [if_true, and_self]
      rw [← Int.add_assoc, Int.mul_add, Int.mul_one]
      omega
    · rw [if_neg (Ne.symm h2)]
      simp [h2]
  · have : ¬ (some x = some a) := fun e => h1 (by injection e with e; exact e.symm)
    rw [if_neg this, if_neg this, if_neg (fun h => h1 h.1)]
theorem mul_bd {v x m k : Int} (h0 : 0 ≤ v) (h1 : v ≤ m) (h2 : 0 ≤ x) (h3 : x ≤ k) : 0 ≤ v * x ∧ v * x ≤ m * k :=
  ⟨Int.mul_nonneg h0 h2, Int.mul_le_mul h1 h3 h2 (by omega)⟩
theorem stP_bd {B : Nat → Nat → Int} {v : Int} {r : List Nat} {i j a b : Nat} (h0 : 0 ≤ v) (h1 : v ≤ 1000) (hr : r.length ≤ 6) (hi : i ≤ 6) : B a b ≤ stP B v r i j a b ∧ stP B v r i j a b ≤ B a b + 42000 := by
  have p := pI_bd r a b i
  have c := cnt_bd ((r.drop (i + 1)).take j) b
  have hl : ((r.drop (i + 1)).take j).length ≤ 6 := by rw [List.length_take, List.length_drop]; omega
  have hm : (i : Int) * r.length ≤ 36 := (mul_bd (v := (i : Int)) (x := (r.length : Int)) (m := 6) (k := 6) (by omega) (by omega) (by omega) (by omega)).2
  unfold stP
  have := mul_bd (v := v) (m := 1000) (x := pI r i a b + if r[i]? = some a then cnt ((r.drop (i + 1)).take j) b else 0) (k := 42) h0 h1 (by split <;> omega) (by split <;> omega)
  omega
theorem cn_bd (r : List Nat) (a b : Nat) (hr : r.length ≤ 6) : 0 ≤ cn r a b ∧ cn r a b ≤ 36 := by
  have p := pI_bd r a b r.length
  rw [pI_all] at p
  have hm : (r.length : Int) * r.length ≤ 36 := (mul_bd (v := (r.length : Int)) (x := (r.length : Int)) (m := 6) (k := 6) (by omega) (by omega) (by omega) (by omega)).2
  omega
theorem prs_bd : ∀ (l : List (List Nat × Int)) (a b : Nat), (∀ p ∈ l, p.1.length ≤ 6 ∧ 0 ≤ p.2 ∧ p.2 ≤ 1000) → 0 ≤ prs l a b ∧ prs l a b ≤ 36000 * l.length
  | [], _, _, _ => by simp [prs]
  | p :: l, a, b, h => by
    have ih := prs_bd l a b fun q hq => h q (List.mem_cons_of_mem _ hq)
    obtain ⟨h1, h2, h3⟩ := h p (List.mem_cons_self ..)
    have c := cn_bd p.1 a b h1
    have := mul_bd (v := p.2) (m := 1000) (x := cn p.1 a b) (k := 36) h2 h3 c.1 c.2
    unfold prs
    rw [List.length_cons]
    omega
/-! ### strengths' bounds -/
theorem fw_bd {M : Nat → Nat → Int} {L : Int} (h : ∀ i k, 0 ≤ M i k ∧ M i k ≤ L) : ∀ b i k, 0 ≤ fw M b i k ∧ fw M b i k ≤ L
  | 0, i, k => h i k
  | b + 1, i, k => by
    have a1 := fw_bd h b i k
    have a2 := fw_bd h b i b
    have a3 := fw_bd h b b k
    show 0 ≤ fwS (fw M b) b i k ∧ fwS (fw M b) b i k ≤ L
    unfold fwS
    split <;> omega
theorem ini_bd {P : Nat → Nat → Int} {L : Int} (h : ∀ i k, 0 ≤ P i k ∧ P i k ≤ L) (hL : 0 ≤ L) (i k : Nat) : 0 ≤ ini P i k ∧ ini P i k ≤ L := by
  have := h i k
  unfold ini
  split <;> omega
/-! ### a raised winner -/
section
variable {n : Nat} {P Q : Nat → Nat → Int} {x y : Nat}
theorem fw_to {M S : Nat → Nat → Int} (hc : Clo n S) (hx : x < n) (h0 : ∀ i k, i < n → k < n → i ≠ k → i ≠ x → M i k ≤ S i k) : ∀ b, b ≤ n → ∀ i k, i < n → k < n → i ≠ k → i ≠ x → fw M b i k ≤ S i k ∨ fw M b i k ≤ S i x
  | 0, _, i, k, hi, hk, h, hxi => .inl (h0 i k hi hk h hxi)
  | b + 1, hb, i, k, hi, hk, h, hxi => by
    have ih := fw_to hc hx h0 b (by omega)
    have a1 := ih i k hi hk h hxi
    show fwS (fw M b) b i k ≤ S i k ∨ fwS (fw M b) b i k ≤ S i x
    by_cases ei : i = b
    · subst ei; rw [fwS_row]; exact a1
    · by_cases ek : k = b
      · subst ek; rw [fwS_col]; exact a1
      · have a2 := ih i b hi (by omega) ei hxi
        unfold fwS
        rw [if_neg h]
        by_cases eb : b = x
        · subst eb
          omega
        · have a3 := ih b k (by omega) hk (Ne.symm ek) eb
          have c1 := hc i b k hi (by omega) hk h (Ne.symm ei) (Ne.symm ek)
          have c2 := hc i b x hi (by omega) hx hxi (Ne.symm ei) eb
          omega
theorem fw_from {M S : Nat → Nat → Int} (hc : Clo n S) (hx : x < n) (h0 : ∀ i k, i < n → k < n → i ≠ k → k ≠ x → M i k ≤ S i k) : ∀ b, b ≤ n → ∀ i k, i < n → k < n → i ≠ k → k ≠ x → fw M b i k ≤ S i k ∨ fw M b i k ≤ S x k
  | 0, _, i, k, hi, hk, h, hxk => .inl (h0 i k hi hk h hxk)
  | b + 1, hb, i, k, hi, hk, h, hxk => by
    have ih := fw_from hc hx h0 b (by omega)
    have a1 := ih i k hi hk h hxk
    show fwS (fw M b) b i k ≤ S i k ∨ fwS (fw M b) b i k ≤ S x k
    by_cases ei : i = b
    · subst ei; rw [fwS_row]; exact a1
    · by_cases ek : k = b
      · subst ek; rw [fwS_col]; exact a1
      · have a3 := ih b k (by omega) hk (Ne.symm ek) hxk
        unfold fwS
        rw [if_neg h]
        by_cases eb : b = x
        · subst eb
          omega
        · have a2 := ih i b hi (by omega) ei eb
          have c1 := hc i b k hi (by omega) hk h (Ne.symm ei) (Ne.symm ek)
          have c2 := hc x b k hx (by omega) hk (Ne.symm hxk) eb (Ne.symm ek)
          omega
theorem raise_win (hx : x < n) (hxy : x ≠ y) (h1 : P x y ≤ Q x y) (h2 : Q y x ≤ P y x) (h3 : ∀ a b, ¬ (a = x ∧ b = y) → ¬ (a = y ∧ b = x) → Q a b = P a b)
    (p0 : ∀ a b, 0 ≤ P a b) (q0 : ∀ a b, 0 ≤ Q a b) (hw : x ∈ wnL n (strg n P)) : x ∈ wnL n (strg n Q) := by
  obtain ⟨_, hk⟩ := wnL_mem.1 hw
  have e1 : ∀ a b, a ≠ x → ini Q a b ≤ ini P a b := fun a b ha => by
    by_cases hy : a = y ∧ b = x
    · obtain ⟨rfl, rfl⟩ := hy
      have := p0 a b
      unfold ini
      split <;> split <;> omega
    · have u1 := h3 a b (fun h => ha h.1) hy
      have u2 : Q b a = P b a := h3 b a (fun h => hy ⟨h.2, h.1⟩) (fun h => ha h.2)
      unfold ini
      rw [u1, u2]
      exact Int.le_refl _
  have e2 : ∀ a b, b ≠ x → ini P a b ≤ ini Q a b := fun a b hb => by
    by_cases hy : a = x ∧ b = y
    · obtain ⟨rfl, rfl⟩ := hy
      have := q0 a b
      unfold ini
      split <;> split <;> omega
    · have u1 := h3 a b hy (fun h => hb h.2)
      have u2 : Q b a = P b a := h3 b a (fun h => hb h.1) (fun h => hy ⟨h.2, h.1⟩)
      unfold ini
      rw [u1, u2]
      exact Int.le_refl _
  refine wnL_mem.2 ⟨hx, fun k hkn => ?_⟩
  by_cases e : k = x
  · subst e; exact Int.le_refl _
  · have t1 := fw_to (M := ini Q) (S := strg n P) (fw_closed n (ini P)) hx (fun i k _ _ _ hi => Int.le_trans (e1 i k hi) (fw_mono i k n)) n (Nat.le_refl _) k x hkn hx e e
    have t2 := fw_from (M := ini P) (S := strg n Q) (fw_closed n (ini Q)) hx (fun i k _ _ _ hi => Int.le_trans (e2 i k hi) (fw_mono i k n)) n (Nat.le_refl _) x k hx hkn (Ne.symm e) e
    have t3 := hk k hkn
    have d1 : fw (ini Q) n k x ≤ strg n P k x := by rcases t1 with t | t <;> exact t
    have d2 : fw (ini P) n x k ≤ strg n Q x k := by rcases t2 with t | t <;> exact t
    exact Int.le_trans d1 (Int.le_trans t3 d2)
end
end Go.Proofs.Ytikcbconfinibaa
