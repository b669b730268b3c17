/- The Kemeny ranking's mathematics: disagreements, scores, the least over all rankings. No program. -/
import Derived.Test.YtikcbconfinibaaRkOk
namespace Go.Proofs.Ytikcbconfinibaa
set_option linter.unusedVariables false
set_option linter.unusedSimpArgs false
def sB (P : Nat → Nat → Int) (a : Nat) : List Nat → Int
  | [] => 0
  | b :: l => P b a + sB P a l
def cB (P : Nat → Nat → Int) (a : Nat) : List Nat → Int
  | [] => 0
  | b :: l => P a b + cB P a l
def dis (P : Nat → Nat → Int) : List Nat → Int
  | [] => 0
  | a :: l => sB P a l + dis P l
section
variable {P : Nat → Nat → Int}
theorem sB_drop {a : Nat} {l : List Nat} {j b : Nat} (h : l[j]? = some b) : sB P a (l.drop j) = P b a + sB P a (l.drop (j + 1)) := by
  obtain ⟨hj, rfl⟩ := List.getElem?_eq_some_iff.1 h
  rw [List.drop_eq_getElem_cons hj]
  rfl
theorem dis_drop {p : List Nat} {i a : Nat} (h : p[i]? = some a) : dis P (p.drop i) = sB P a (p.drop (i + 1)) + dis P (p.drop (i + 1)) := by
  obtain ⟨hj, rfl⟩ := List.getElem?_eq_some_iff.1 h
  rw [List.drop_eq_getElem_cons hj]
  rfl
theorem sB_bd (hP : ∀ a b, 0 ≤ P a b ∧ P a b ≤ 432000) (a : Nat) : ∀ l : List Nat, 0 ≤ sB P a l ∧ sB P a l ≤ 432000 * l.length
  | [] => by simp [sB]
  | b :: l => by
    have h1 := sB_bd hP a l
    have h2 := hP b a
    unfold sB
    rw [List.length_cons]
    omega
theorem dis_bd (hP : ∀ a b, 0 ≤ P a b ∧ P a b ≤ 432000) : ∀ l : List Nat, l.length ≤ 6 → 0 ≤ dis P l ∧ dis P l ≤ 2592000 * l.length
  | [], _ => by simp [dis]
  | a :: l, h => by
    rw [List.length_cons] at h
    have h1 := dis_bd hP l (by omega)
    have h2 := sB_bd hP a l
    unfold dis
    rw [List.length_cons]
    omega
theorem cB_snoc (a x : Nat) : ∀ l : List Nat, cB P a (l ++ [x]) = cB P a l + P a x
  | [] => by simp [cB]
  | b :: l => by
    rw [List.cons_append]
    unfold cB
    rw [cB_snoc a x l]
    omega
theorem cB_rev (a : Nat) : ∀ l : List Nat, cB P a l.reverse = cB P a l
  | [] => rfl
  | b :: l => by
    rw [List.reverse_cons, cB_snoc, cB_rev a l]
    show _ = P a b + cB P a l
    omega
theorem sB_snoc (a x : Nat) : ∀ l : List Nat, sB P a (l ++ [x]) = sB P a l + P x a
  | [] => by simp [sB]
  | b :: l => by
    rw [List.cons_append]
    unfold sB
    rw [sB_snoc a x l]
    omega
theorem dis_snoc (x : Nat) : ∀ l : List Nat, dis P (l ++ [x]) = dis P l + cB P x l
  | [] => by simp [dis, cB, sB]
  | a :: l => by
    rw [List.cons_append]
    unfold dis cB
    rw [dis_snoc x l, sB_snoc]
    omega
theorem sc_sum {W : Int} (a : Nat) : ∀ l : List Nat, (∀ b ∈ l, P a b + P b a = W) → sB P a l + cB P a l = W * l.length
  | [], _ => by simp [sB, cB]
  | b :: l, h => by
    have h1 := sc_sum a l (fun x hx => h x (List.mem_cons_of_mem _ hx))
    have h2 := h b (List.mem_cons_self ..)
    unfold sB cB
    rw [List.length_cons, Int.natCast_add, Int.mul_add]
    simp
    omega
/-- What a ranking and its reverse disagree together: half of W n (n - 1). -/
theorem dis_both {W : Int} : ∀ l : List Nat, l.Nodup → (∀ a ∈ l, ∀ b ∈ l, a ≠ b → P a b + P b a = W) → 2 * (dis P l + dis P l.reverse) = W * ((l.length : Int) * ((l.length : Int) - 1))
  | [], _, _ => by simp [dis]
  | a :: l, hn, h => by
    obtain ⟨ha, hn'⟩ := List.nodup_cons.1 hn
    have h1 := dis_both l hn' (fun x hx y hy e => h x (List.mem_cons_of_mem _ hx) y (List.mem_cons_of_mem _ hy) e)
    have h2 := sc_sum (P := P) (W := W) a l (fun b hb => h a (List.mem_cons_self ..) b (List.mem_cons_of_mem _ hb) (fun e => ha (e ▸ hb)))
    rw [List.reverse_cons, dis_snoc, cB_rev]
    show 2 * (sB P a l + dis P l + (dis P l.reverse + cB P a l)) = _
    rw [List.length_cons]
    have e1 : 2 * (sB P a l + dis P l + (dis P l.reverse + cB P a l)) = 2 * (dis P l + dis P l.reverse) + 2 * (sB P a l + cB P a l) := by omega
    rw [e1, h1, h2]
    have e2 : ((l.length + 1 : Nat) : Int) = (l.length : Int) + 1 := by omega
    rw [e2]
    generalize (l.length : Int) = n
    have e3 : (n + 1) * (n + 1 - 1) = n * (n - 1) + 2 * n := by
      rw [show n + 1 - 1 = n by omega, Int.add_mul, Int.mul_sub, Int.mul_one, Int.one_mul]
      omega
    rw [e3, Int.mul_add, ← Int.mul_assoc W 2 n, Int.mul_comm W 2, Int.mul_assoc]
/-! ### the sum of a row, and of all rows -/
def tot (f : Nat → Int) : Nat → Int
  | 0 => 0
  | k + 1 => tot f k + f k
theorem tot_add (f g : Nat → Int) : ∀ n, tot f n + tot g n = tot (fun k => f k + g k) n
  | 0 => rfl
  | n + 1 => by
    unfold tot
    rw [← tot_add f g n]
    omega
theorem tot_congr {f g : Nat → Int} : ∀ n, (∀ k, k < n → f k = g k) → tot f n = tot g n
  | 0, _ => rfl
  | n + 1, h => by
    unfold tot
    rw [tot_congr n (fun k hk => h k (by omega)), h n (by omega)]
theorem tot_const (c : Int) : ∀ n : Nat, tot (fun _ => c) n = c * n
  | 0 => by simp [tot]
  | n + 1 => by
    unfold tot
    rw [tot_const c n, Int.natCast_add, Int.mul_add]
    simp
theorem tot_all {W : Int} : ∀ n : Nat, (∀ a b, a < n → b < n → a ≠ b → P a b + P b a = W) → (∀ a, a < n → P a a = 0) → 2 * tot (fun a => tot (P a) n) n = W * ((n : Int) * ((n : Int) - 1))
  | 0, _, _ => by simp [tot]
  | n + 1, h, h0 => by
    have h1 := tot_all n (fun a b ha hb => h a b (by omega) (by omega)) (fun a ha => h0 a (by omega))
    have e1 : tot (fun a => tot (P a) (n + 1)) n = tot (fun a => tot (P a) n) n + tot (fun a => P a n) n := by
      rw [tot_add]
      rfl
    have e2 : tot (fun a => P a n) n + tot (P n) n = W * n := by
      rw [tot_add, tot_congr n (g := fun _ => W) (fun k hk => h k n (by omega) (by omega) (by omega)), tot_const]
    have e3 := h0 n (by omega)
    show 2 * (tot (fun a => tot (P a) (n + 1)) n + (tot (P n) n + P n n)) = _
    rw [e1, e3]
    have e4 : 2 * (tot (fun a => tot (P a) n) n + tot (fun a => P a n) n + (tot (P n) n + 0)) = 2 * tot (fun a => tot (P a) n) n + 2 * (tot (fun a => P a n) n + tot (P n) n) := by omega
    rw [e4, h1, e2]
    have e5 : ((n + 1 : Nat) : Int) = (n : Int) + 1 := by omega
    rw [e5]
    generalize (n : Int) = x
    have e6 : (x + 1) * (x + 1 - 1) = x * (x - 1) + 2 * x := by
      rw [show x + 1 - 1 = x by omega, Int.add_mul, Int.mul_sub, Int.mul_one, Int.one_mul]
      omega
    rw [e6, Int.mul_add, ← Int.mul_assoc W 2 x, Int.mul_comm W 2, Int.mul_assoc]
end
/-! ### counted pairs -/
theorem cn_both {a b : Nat} (hab : a ≠ b) : ∀ r : List Nat, cn r a b + cn r b a = cnt r a * cnt r b
  | [] => by simp [cn, cnt]
  | x :: r => by
    have ih := cn_both hab r
    rw [cnt_cons, cnt_cons]
    unfold cn
    by_cases h1 : x = a
    · have h2 : ¬ x = b := fun e => hab (h1.symm.trans e)
      rw [if_pos h1, if_neg h2, if_pos h1, if_neg h2]
      simp only [Int.zero_add, Int.add_mul, Int.mul_add, Int.one_mul, Int.mul_one]
      omega
    · by_cases h2 : x = b
      · rw [if_neg h1, if_pos h2, if_neg h1, if_pos h2]
        simp only [Int.zero_add, Int.add_mul, Int.mul_add, Int.one_mul, Int.mul_one]
        omega
      · rw [if_neg h1, if_neg h2, if_neg h1, if_neg h2]
        simp only [Int.zero_add]
        omega
theorem cn_self (a : Nat) : ∀ r : List Nat, r.Nodup → cn r a a = 0
  | [], _ => rfl
  | x :: r, h => by
    obtain ⟨hx, hr⟩ := List.nodup_cons.1 h
    unfold cn
    rw [cn_self a r hr]
    by_cases e : x = a
    · rw [if_pos e]
      unfold cnt
      rw [List.count_eq_zero.2 (fun hm => hx (by rw [e]; exact hm))]
      rfl
    · rw [if_neg e]
      rfl
theorem cnt_perm {n a : Nat} {r : List Nat} (h : r.Perm (List.range n)) (ha : a < n) : cnt r a = 1 := by
  unfold cnt
  rw [h.count_eq]
  have h1 := List.nodup_iff_count.1 (List.nodup_range (n := n)) a
  have h2 := List.count_pos_iff.2 (List.mem_range.2 ha)
  omega
def sumW : List (List Nat × Int) → Int
  | [] => 0
  | p :: l => p.2 + sumW l
theorem prs_both {n a b : Nat} (ha : a < n) (hb : b < n) (hab : a ≠ b) : ∀ l : List (List Nat × Int), (∀ p ∈ l, p.1.Perm (List.range n)) → prs l a b + prs l b a = sumW l
  | [], _ => rfl
  | p :: l, h => by
    have h1 := prs_both ha hb hab l (fun q hq => h q (List.mem_cons_of_mem _ hq))
    have hp := h p (List.mem_cons_self ..)
    have h2 := cn_both hab p.1
    rw [cnt_perm hp ha, cnt_perm hp hb, Int.mul_one] at h2
    unfold prs sumW
    have e : p.2 * cn p.1 a b + p.2 * cn p.1 b a = p.2 := by rw [← Int.mul_add, h2, Int.mul_one]
    omega
theorem prs_self (a : Nat) : ∀ l : List (List Nat × Int), (∀ p ∈ l, p.1.Nodup) → prs l a a = 0
  | [], _ => rfl
  | p :: l, h => by
    unfold prs
    rw [prs_self a l (fun q hq => h q (List.mem_cons_of_mem _ hq)), cn_self a p.1 (h p (List.mem_cons_self ..)), Int.mul_zero]
    rfl
end Go.Proofs.Ytikcbconfinibaa
