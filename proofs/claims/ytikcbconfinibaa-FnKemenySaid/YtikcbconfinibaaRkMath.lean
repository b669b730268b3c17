/- Rankings: what stands before what, the strengths of paths, and the winners. No program. -/
import Derived.Test.YtikcbconfinibaaBase
namespace Go.Proofs.Ytikcbconfinibaa
set_option linter.unusedVariables false
def cnt (r : List Nat) (b : Nat) : Int := (r.count b : Int)
theorem cnt_snoc (r : List Nat) (x b : Nat) : cnt (r ++ [x]) b = cnt r b + if x = b then 1 else 0 := by
  unfold cnt
  rw [List.count_append, List.count_singleton]
  by_cases h : x = b <;> simp [h]
theorem cnt_cons (r : List Nat) (x b : Nat) : cnt (x :: r) b = (if x = b then 1 else 0) + cnt r b := by
  unfold cnt
  rw [List.count_cons]
  by_cases h : x = b <;> simp [h] <;> omega
theorem cnt_bd (r : List Nat) (b : Nat) : 0 ≤ cnt r b ∧ cnt r b ≤ r.length := by
  unfold cnt
  have := List.count_le_length (a := b) (l := r)
  omega
theorem cnt_rev (r : List Nat) (b : Nat) : cnt r.reverse b = cnt r b := by unfold cnt; rw [List.count_reverse]
/-- How often a stands before b. -/
def cn : List Nat → Nat → Nat → Int
  | [], _, _ => 0
  | x :: r, a, b => (if x = a then cnt r b else 0) + cn r a b
theorem cn_snoc (x a b : Nat) : ∀ r : List Nat, cn (r ++ [x]) a b = cn r a b + if x = b then cnt r a else 0
  | [] => by simp [cn, cnt]
  | y :: r => by
    rw [List.cons_append]
    unfold cn
    rw [cn_snoc x a b r, cnt_snoc, cnt_cons]
    by_cases h1 : y = a <;> by_cases h2 : x = b <;> simp [h1, h2] <;> omega
theorem cn_rev (a b : Nat) : ∀ r : List Nat, cn r.reverse a b = cn r b a
  | [] => rfl
  | x :: r => by
    rw [List.reverse_cons, cn_snoc, cn_rev a b r, cnt_rev]
    show _ = (if x = b then cnt r a else 0) + cn r b a
    omega
/-- The same, by the first i only. -/
def pI (r : List Nat) : Nat → Nat → Nat → Int
  | 0, _, _ => 0
  | i + 1, a, b => pI r i a b + if r[i]? = some a then cnt (r.drop (i + 1)) b else 0
theorem pI_cons (x : Nat) (r : List Nat) (a b : Nat) : ∀ i, pI (x :: r) (i + 1) a b = (if x = a then cnt r b else 0) + pI r i a b
  | 0 => by
    show (0 : Int) + (if (x :: r)[0]? = some a then cnt ((x :: r).drop 1) b else 0) = _ + 0
    simp
  | i + 1 => by
    show pI (x :: r) (i + 1) a b + (if (x :: r)[i + 1]? = some a then cnt ((x :: r).drop (i + 1 + 1)) b else 0) = _ + (pI r i a b + if r[i]? = some a then cnt (r.drop (i + 1)) b else 0)
    rw [pI_cons x r a b i, List.getElem?_cons_succ, List.drop_succ_cons]
    omega
theorem pI_all (a b : Nat) : ∀ r : List Nat, pI r r.length a b = cn r a b
  | [] => rfl
  | x :: r => by rw [List.length_cons, pI_cons, pI_all a b r]; rfl
theorem pI_bd (r : List Nat) (a b : Nat) : ∀ i, 0 ≤ pI r i a b ∧ pI r i a b ≤ i * r.length
  | 0 => ⟨Int.le_refl _, by simp [pI]⟩
  | i + 1 => by
    have ih := pI_bd r a b i
    have h := cnt_bd (r.drop (i + 1)) b
    have hl : (r.drop (i + 1)).length ≤ r.length := by rw [List.length_drop]; omega
    show 0 ≤ pI r i a b + _ ∧ pI r i a b + _ ≤ ((i + 1 : Nat) : Int) * r.length
    have e : ((i + 1 : Nat) : Int) * r.length = (i : Int) * r.length + r.length := by rw [Int.natCast_add, Int.add_mul]; simp
    rw [e]
    split <;> omega
def prs : List (List Nat × Int) → Nat → Nat → Int
  | [], _, _ => 0
  | p :: l, a, b => p.2 * cn p.1 a b + prs l a b
theorem prs_snoc (l : List (List Nat × Int)) (p : List Nat × Int) (a b : Nat) : prs (l ++ [p]) a b = prs l a b + p.2 * cn p.1 a b := by
  induction l with
  | nil => simp [prs]
  | cons q l ih => rw [List.cons_append]; unfold prs; rw [ih]; omega
theorem prs_rev (l : List (List Nat × Int)) (a b : Nat) : prs (l.map fun p => (p.1.reverse, p.2)) a b = prs l b a := by
  induction l with
  | nil => rfl
  | cons q l ih => rw [List.map_cons]; unfold prs; rw [ih, cn_rev]
/-! ### rows and matrices -/
def rowF (n : Nat) (f : Nat → Int) : List Int := (List.range n).map f
def matF (n : Nat) (M : Nat → Nat → Int) : List (List Int) := (List.range n).map fun i => rowF n (M i)
theorem rowF_at {n k : Nat} (f : Nat → Int) (h : k < n) : (rowF n f)[k]? = some (f k) := by simp [rowF, h]
theorem rowF_len (n : Nat) (f : Nat → Int) : (rowF n f).length = n := by simp [rowF]
theorem rowF_congr {n : Nat} {f g : Nat → Int} (h : ∀ k, k < n → f k = g k) : rowF n f = rowF n g := by
  unfold rowF
  exact List.map_congr_left fun a ha => h a (List.mem_range.1 ha)
theorem rowF_set {n : Nat} (f : Nat → Int) (k : Nat) (v : Int) : (rowF n f).set k v = rowF n fun j => if j = k then v else f j := by
  apply List.ext_getElem?
  intro j
  by_cases hj : j < n
  · rw [rowF_at _ hj]
    by_cases e : k = j
    · subst e
      rw [List.getElem?_set_self (by rw [rowF_len]; exact hj), if_pos rfl]
    · rw [List.getElem?_set_ne e, rowF_at _ hj, if_neg (Ne.symm e)]
  · rw [List.getElem?_eq_none (by rw [List.length_set, rowF_len]; omega), List.getElem?_eq_none (by rw [rowF_len]; omega)]
theorem rowF_succ (n : Nat) (f : Nat → Int) : rowF (n + 1) f = rowF n f ++ [f n] := by simp [rowF, List.range_succ]
theorem rowF_zero (n : Nat) : List.replicate n (0 : Int) = rowF n fun _ => 0 := by
  apply List.ext_getElem?
  intro j
  by_cases hj : j < n
  · rw [rowF_at _ hj, List.getElem?_replicate, if_pos hj]
  · rw [List.getElem?_eq_none (by simp; omega), List.getElem?_eq_none (by rw [rowF_len]; omega)]
theorem matF_at {n i : Nat} (M : Nat → Nat → Int) (h : i < n) : (matF n M)[i]? = some (rowF n (M i)) := by simp [matF, h]
theorem matF_len (n : Nat) (M : Nat → Nat → Int) : (matF n M).length = n := by simp [matF]
theorem matF_congr {n : Nat} {M K : Nat → Nat → Int} (h : ∀ i k, i < n → k < n → M i k = K i k) : matF n M = matF n K := by
  unfold matF
  exact List.map_congr_left fun a ha => rowF_congr fun k hk => h a k (List.mem_range.1 ha) hk
theorem matF_set {n i : Nat} (M : Nat → Nat → Int) (g : Nat → Int) : (matF n M).set i (rowF n g) = matF n fun a => if a = i then g else M a := by
  apply List.ext_getElem?
  intro j
  by_cases hj : j < n
  · rw [matF_at _ hj]
    by_cases e : i = j
    · subst e
      rw [List.getElem?_set_self (by rw [matF_len]; exact hj), if_pos rfl]
    · rw [List.getElem?_set_ne e, matF_at _ hj, if_neg (Ne.symm e)]
  · rw [List.getElem?_eq_none (by rw [List.length_set, matF_len]; omega), List.getElem?_eq_none (by rw [matF_len]; omega)]
theorem matF_put {n i : Nat} (M : Nat → Nat → Int) (k : Nat) (v : Int) : (matF n M).set i ((rowF n (M i)).set k v) = matF n fun a b => if a = i ∧ b = k then v else M a b := by
  rw [rowF_set, matF_set]
  refine matF_congr fun a b _ _ => ?_
  by_cases h1 : a = i
  · subst h1; simp
  · simp [h1]
/-! ### strengths -/
def ini (P : Nat → Nat → Int) (i k : Nat) : Int := if P k i < P i k then P i k else 0
def fwS (M : Nat → Nat → Int) (b i k : Nat) : Int := if i = k then M i k else max (M i k) (min (M i b) (M b k))
def fw (M : Nat → Nat → Int) : Nat → Nat → Nat → Int
  | 0 => M
  | b + 1 => fwS (fw M b) b
section
variable {M U : Nat → Nat → Int}
theorem fwS_col (M : Nat → Nat → Int) (b i : Nat) : fwS M b i b = M i b := by unfold fwS; split <;> omega
theorem fwS_row (M : Nat → Nat → Int) (b k : Nat) : fwS M b b k = M b k := by unfold fwS; split <;> omega
theorem fw_diag (i : Nat) : ∀ b, fw M b i i = M i i
  | 0 => rfl
  | b + 1 => by show fwS (fw M b) b i i = _; unfold fwS; rw [if_pos rfl, fw_diag i b]
theorem fw_mono (i k : Nat) : ∀ b, M i k ≤ fw M b i k
  | 0 => Int.le_refl _
  | b + 1 => by
    have := fw_mono i k b
    show _ ≤ fwS (fw M b) b i k
    unfold fwS
    split <;> omega
theorem fw_tr : ∀ b i k, fw (fun i k => M k i) b i k = fw M b k i
  | 0, _, _ => rfl
  | b + 1, i, k => by
    show fwS (fw (fun i k => M k i) b) b i k = fwS (fw M b) b k i
    unfold fwS
    rw [fw_tr b i k, fw_tr b i b, fw_tr b b k]
    by_cases h : i = k
    · rw [if_pos h, if_pos h.symm]
    · rw [if_neg h, if_neg (Ne.symm h), Int.min_comm]
/-- Closed: a way round is no better. -/
def Clo (n : Nat) (U : Nat → Nat → Int) : Prop := ∀ i m k, i < n → m < n → k < n → i ≠ k → m ≠ i → m ≠ k → min (U i m) (U m k) ≤ U i k
theorem fw_clo : ∀ b, ∀ i m k, m < b → i ≠ k → m ≠ i → m ≠ k → min (fw M b i m) (fw M b m k) ≤ fw M b i k
  | 0, i, m, k, h, _, _, _ => by omega
  | b + 1, i, m, k, hm, h1, h2, h3 => by
    show min (fwS (fw M b) b i m) (fwS (fw M b) b m k) ≤ fwS (fw M b) b i k
    by_cases e : m = b
    · subst e
      rw [fwS_col, fwS_row]
      unfold fwS
      rw [if_neg h1]
      omega
    · have ih := fw_clo b
      have a1 := ih i m k (by omega) h1 h2 h3
      by_cases ei : i = b
      · subst ei
        rw [fwS_row, fwS_row]
        unfold fwS
        rw [if_neg h3]
        omega
      · by_cases ek : k = b
        · subst ek
          rw [fwS_col, fwS_col]
          unfold fwS
          rw [if_neg (Ne.symm h2)]
          omega
        · have a2 := ih i m b (by omega) ei h2 e
          have a3 := ih b m k (by omega) (Ne.symm ek) e h3
          unfold fwS
          rw [if_neg (Ne.symm h2), if_neg h3, if_neg h1]
          omega
theorem fw_closed (n : Nat) (M : Nat → Nat → Int) : Clo n (fw M n) := fun i m k hi hm hk h1 h2 h3 => fw_clo n i m k hm h1 h2 h3
theorem fw_le {n : Nat} (hc : Clo n U) (h0 : ∀ i k, i < n → k < n → i ≠ k → M i k ≤ U i k) : ∀ b, b ≤ n → ∀ i k, i < n → k < n → i ≠ k → fw M b i k ≤ U i k
  | 0, _, i, k, hi, hk, h => h0 i k hi hk h
  | b + 1, hb, i, k, hi, hk, h => by
    have ih := fw_le hc h0 b (by omega)
    show fwS (fw M b) b i k ≤ _
    by_cases ei : i = b
    · subst ei; rw [fwS_row]; exact ih i k hi hk h
    · by_cases ek : k = b
      · subst ek; rw [fwS_col]; exact ih i k hi hk h
      · have a1 := ih i k hi hk h
        have a2 := ih i b hi (by omega) ei
        have a3 := ih b k (by omega) hk (Ne.symm ek)
        have a4 := hc i b k hi (by omega) hk h (Ne.symm ei) (Ne.symm ek)
        unfold fwS
        rw [if_neg h]
        omega
end
def strg (n : Nat) (P : Nat → Nat → Int) : Nat → Nat → Int := fw (ini P) n
theorem strg_tr (n : Nat) (P : Nat → Nat → Int) (i k : Nat) : strg n (fun a b => P b a) i k = strg n P k i := by
  unfold strg
  rw [← fw_tr]
  rfl
def wins (n : Nat) (S : Nat → Nat → Int) (i : Nat) : Bool := (List.range n).all fun k => decide (S k i ≤ S i k)
theorem wins_iff {n : Nat} {S : Nat → Nat → Int} {i : Nat} : wins n S i = true ↔ ∀ k, k < n → S k i ≤ S i k := by
  unfold wins
  rw [List.all_eq_true]
  exact ⟨fun h k hk => by simpa using h k (List.mem_range.2 hk), fun h k hk => by simpa using h k (List.mem_range.1 hk)⟩
def wnL (n : Nat) (S : Nat → Nat → Int) : List Nat := (List.range n).filter (wins n S)
theorem wnL_mem {n : Nat} {S : Nat → Nat → Int} {i : Nat} : i ∈ wnL n S ↔ i < n ∧ ∀ k, k < n → S k i ≤ S i k := by
  unfold wnL
  rw [List.mem_filter, List.mem_range, wins_iff]
section
variable {n : Nat} {S : Nat → Nat → Int}
/-- Beating is transitive. -/
theorem beats_trans (hc : Clo n S) {a b c : Nat} (ha : a < n) (hb : b < n) (hd : c < n) (h1 : S b a < S a b) (h2 : S c b < S b c) : S c a < S a c := by
  have ab : a ≠ b := fun e => by subst e; omega
  have bc : b ≠ c := fun e => by subst e; omega
  have ac : a ≠ c := fun e => by subst e; omega
  have c1 := hc a b c ha hb hd ac (Ne.symm ab) bc
  have c2 := hc b c a hb hd ha (Ne.symm ab) (Ne.symm bc) (Ne.symm ac)
  have c3 := hc c a b hd ha hb (Ne.symm bc) ac ab
  omega
theorem top_of (hc : Clo n S) (p : Nat → Prop) : ∀ m, m ≤ n → (∃ a, a < m ∧ p a) → ∃ x, x < m ∧ p x ∧ ∀ k, k < m → p k → ¬ S x k < S k x
  | 0, _, h => by obtain ⟨a, ha, _⟩ := h; omega
  | m + 1, hm, h => by
    by_cases hp : ∃ a, a < m ∧ p a
    · obtain ⟨x, hx, px, hk⟩ := top_of hc p m (by omega) hp
      by_cases hb : p m ∧ S x m < S m x
      · refine ⟨m, by omega, hb.1, fun k hkm pk h3 => ?_⟩
        by_cases e : k = m
        · subst e; omega
        · exact hk k (by omega) pk (beats_trans hc (by omega) (by omega) (by omega) h3 hb.2)
      · refine ⟨x, by omega, px, fun k hkm pk h3 => ?_⟩
        by_cases e : k = m
        · subst e; exact hb ⟨pk, h3⟩
        · exact hk k (by omega) pk h3
    · obtain ⟨a, ha, pa⟩ := h
      have : a = m := by
        by_cases e : a = m
        · exact e
        · exact absurd ⟨a, by omega, pa⟩ hp
      subst this
      refine ⟨a, by omega, pa, fun k hk pk h3 => ?_⟩
      by_cases e : k = a
      · subst e; omega
      · exact hp ⟨k, by omega, pk⟩
theorem wn_some (hc : Clo n S) (hn : 0 < n) : 0 < (wnL n S).length := by
  obtain ⟨x, hx, _, hk⟩ := top_of hc (fun _ => True) n (Nat.le_refl _) ⟨0, hn, trivial⟩
  exact List.length_pos_of_mem (wnL_mem.2 ⟨hx, fun k hk' => by have := hk k hk' trivial; omega⟩)
/-- The only winner of several options is no winner of the reversed strengths. -/
theorem wn_rev (hc : Clo n S) (hn : 1 < n) (h1 : (wnL n S).length ≤ 1) {x : Nat} (hx : x ∈ wnL n S) : x ∉ wnL n (fun a b => S b a) := fun hy => by
  obtain ⟨hxn, hw⟩ := wnL_mem.1 hx
  obtain ⟨_, hl⟩ := wnL_mem.1 hy
  obtain ⟨y, hyn, hne, ht⟩ := top_of hc (fun a => a ≠ x) n (Nat.le_refl _) (by
    by_cases e : x = 0
    · exact ⟨1, hn, by omega⟩
    · exact ⟨0, by omega, by omega⟩)
  have my : y ∈ wnL n S := wnL_mem.2 ⟨hyn, fun k hk => by
    by_cases e : k = x
    · subst e
      have a1 := hw y hyn
      have a2 : S k y ≤ S y k := hl y hyn
      omega
    · have := ht k hk e; omega⟩
  match hL : wnL n S, h1, hx, my with
  | [], _, hx, _ => simp at hx
  | [z], _, hx, my => simp at hx my; exact hne (my.trans hx.symm)
  | z :: z2 :: t, h1, _, _ => simp at h1
end
end Go.Proofs.Ytikcbconfinibaa
