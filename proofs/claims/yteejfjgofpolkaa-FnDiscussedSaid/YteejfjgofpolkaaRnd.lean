/- Rounds of a frame: what a round does, and what holds when nothing changes. No program. -/
import Derived.Test.YteejfjgofpolkaaFrame2
namespace Go.Proofs.Yteejfjgofpolkaa
set_option linter.unusedVariables false
open Go.RowKit
/-- A mask of what holds below k. -/
def mk (p : Nat → Bool) : Nat → Nat
  | 0 => 0
  | k + 1 => if p k then mk p k ||| 2 ^ k else mk p k
theorem mk_bit (p : Nat → Bool) (k i : Nat) : (mk p k).testBit i = (decide (i < k) && p i) := by
  induction k with
  | zero => simp [mk]
  | succ k ih =>
    unfold mk
    by_cases hk : p k = true
    · rw [if_pos hk, or_pow_bit, ih]
      by_cases h : k = i
      · subst h; simp [hk]
      · have : decide (i < k + 1) = decide (i < k) := by simp; omega
        simp [h, this]
    · rw [if_neg hk, ih]
      by_cases h : k = i
      · subst h; simp at hk; simp [hk]
      · have : decide (i < k + 1) = decide (i < k) := by simp; omega
        rw [this]
theorem mk_lt (p : Nat → Bool) (k : Nat) : mk p k < 2 ^ k := by
  induction k with
  | zero => simp [mk]
  | succ k ih =>
    have h1 : 2 ^ k < 2 ^ (k + 1) := Nat.pow_lt_pow_right (by omega) (by omega)
    unfold mk
    split
    · exact Nat.or_lt_two_pow (by omega) h1
    · omega
def lst (n : Nat) (F : Nat → Int) : List Int := (List.range n).map F
theorem lst_at {n a : Nat} (F : Nat → Int) (h : a < n) : (lst n F)[a]? = some (F a) := by simp [lst, h]
theorem lst_len (n : Nat) (F : Nat → Int) : (lst n F).length = n := by simp [lst]
theorem lst_congr {n : Nat} {F G : Nat → Int} (h : ∀ a, a < n → F a = G a) : lst n F = lst n G := by
  unfold lst
  exact List.map_congr_left fun a ha => h a (List.mem_range.1 ha)
theorem lst_set {n : Nat} (F : Nat → Int) (a : Nat) (z : Int) : (lst n F).set a z = lst n fun i => if i = a then z else F i := by
  apply List.ext_getElem?
  intro i
  by_cases hi : i < n
  · rw [lst_at _ hi]
    by_cases e : a = i
    · subst e
      rw [List.getElem?_set_self (by rw [lst_len]; exact hi), if_pos rfl]
    · rw [List.getElem?_set_ne e, lst_at _ hi, if_neg (Ne.symm e)]
  · rw [List.getElem?_eq_none (by rw [List.length_set, lst_len]; omega), List.getElem?_eq_none (by rw [lst_len]; omega)]
def accM (n : Nat) (F : Nat → Int) : Nat := mk (fun a => decide (0 < F a)) n
def rejM (n : Nat) (F : Nat → Int) : Nat := mk (fun a => decide (F a < 0)) n
def st1 (n : Nat) (by_ : Nat → Nat) (F : Nat → Int) (k : Int) (a : Nat) : Int := if F a = 0 ∧ ldf (by_ a) (rejM n F) = 0 then k else F a
def st2 (n : Nat) (by_ : Nat → Nat) (F : Nat → Int) (k : Int) (a : Nat) : Int := if F a = 0 ∧ by_ a &&& accM n F ≠ 0 then -k else F a
def nxt (n : Nat) (by_ : Nat → Nat) (F : Nat → Int) (k : Int) : Nat → Int := st2 n by_ (st1 n by_ F k) k
def bef (n : Nat) (F : Nat → Int) : Nat := accM n F ||| rejM n F
theorem bef_bit {n a : Nat} (F : Nat → Int) (h : a < n) : (bef n F).testBit a = decide (F a ≠ 0) := by
  unfold bef accM rejM
  rw [Nat.testBit_or, mk_bit, mk_bit]
  simp only [h, decide_true, Bool.true_and]
  rcases Int.lt_trichotomy (F a) 0 with h1 | h1 | h1
  · simp [h1]; omega
  · simp [h1]
  · simp [h1]; omega
theorem bef_lt (n : Nat) (F : Nat → Int) : bef n F < 2 ^ n := Nat.or_lt_two_pow (mk_lt _ _) (mk_lt _ _)
structure RInv (n : Nat) (by_ : Nat → Nat) (F : Nat → Int) (k : Int) : Prop where
  bd : ∀ a, a < n → -k < F a ∧ F a < k
  pos : ∀ a, a < n → 0 < F a → (∀ b, (by_ a).testBit b = true → F b < 0 ∧ -F b < F a) ∧ (F a = 1 ∨ ∃ b, (by_ a).testBit b = true ∧ -F b = F a - 1)
  neg : ∀ a, a < n → F a < 0 → (∃ b, (by_ a).testBit b = true ∧ F b = -F a) ∧ ∀ b, (by_ a).testBit b = true → 0 < F b → -F a ≤ F b
  zer : ∀ a, a < n → F a = 0 → (k = 1 ∨ ∃ b, (by_ a).testBit b = true ∧ ¬ (F b < 0 ∧ -F b < k - 1)) ∧ ∀ b, (by_ a).testBit b = true → ¬ 0 < F b
theorem RInv.start (n : Nat) (by_ : Nat → Nat) : RInv n by_ (fun _ => 0) 1 :=
  ⟨fun _ _ => by omega, fun _ _ h => absurd h (by omega), fun _ _ h => absurd h (by omega), fun _ _ _ => ⟨.inl rfl, fun _ _ => by omega⟩⟩
section
variable {n : Nat} {by_ : Nat → Nat} {F : Nat → Int} {k : Int}
theorem st1_of (hb : ∀ a, by_ a < 1024) (hn : n ≤ 10) (a : Nat) (ha : a < n) : (F a ≠ 0 → st1 n by_ F k a = F a) ∧ (F a = 0 → ((∀ b, (by_ a).testBit b = true → b < n ∧ F b < 0) → st1 n by_ F k a = k) ∧ ((∃ b, (by_ a).testBit b = true ∧ (b < n → ¬ F b < 0)) → st1 n by_ F k a = 0)) := by
  have hr : rejM n F < 1024 := Nat.lt_of_lt_of_le (mk_lt _ _) (Nat.le_trans (Nat.pow_le_pow_right (by omega) hn) (by decide))
  have hz := ldf_zero (a := by_ a) (b := rejM n F) (by have := hb a; omega) (by omega)
  refine ⟨fun h => by unfold st1; rw [if_neg (by simp [h])], fun h => ⟨fun h1 => ?_, fun h1 => ?_⟩⟩
  · unfold st1
    rw [if_pos ⟨h, hz.2 fun i hi => by unfold rejM; rw [mk_bit]; simp [(h1 i hi).1, (h1 i hi).2]⟩]
  · obtain ⟨b, hb1, hb2⟩ := h1
    unfold st1
    rw [if_neg, h]
    intro hh
    have := hz.1 hh.2 b hb1
    unfold rejM at this
    rw [mk_bit] at this
    simp at this
    exact hb2 this.1 this.2
theorem st2_of (a : Nat) : (F a ≠ 0 → st2 n by_ F k a = F a) ∧ (F a = 0 → ((∃ b, (by_ a).testBit b = true ∧ b < n ∧ 0 < F b) → st2 n by_ F k a = -k) ∧ ((∀ b, (by_ a).testBit b = true → b < n → ¬ 0 < F b) → st2 n by_ F k a = 0)) := by
  refine ⟨fun h => by unfold st2; rw [if_neg (by simp [h])], fun h => ⟨fun h1 => ?_, fun h1 => ?_⟩⟩
  · obtain ⟨b, h1, h2, h3⟩ := h1
    have hne : by_ a &&& accM n F ≠ 0 := fun e => by
      have := and_zero.1 e b h1
      unfold accM at this
      rw [mk_bit] at this
      simp [h2] at this
      omega
    unfold st2
    rw [if_pos ⟨h, hne⟩]
  · unfold st2
    rw [if_neg, h]
    intro hh
    refine hh.2 (and_zero.2 fun i hi => ?_)
    unfold accM
    rw [mk_bit]
    by_cases hin : i < n
    · have := h1 i hi hin
      simp [hin]; omega
    · simp [hin]
/-- What a round makes of a number. -/
theorem nxt_of (hb : ∀ a, by_ a < 1024) (hbn : ∀ a b, (by_ a).testBit b = true → b < n) (hn : n ≤ 10) (hk : 0 < k) (a : Nat) (ha : a < n) :
    (F a ≠ 0 → nxt n by_ F k a = F a) ∧
    (F a = 0 → (∀ b, (by_ a).testBit b = true → F b < 0) → nxt n by_ F k a = k) ∧
    (F a = 0 → (∃ b, (by_ a).testBit b = true ∧ ¬ F b < 0) → (∃ b, (by_ a).testBit b = true ∧ 0 < st1 n by_ F k b) → nxt n by_ F k a = -k) ∧
    (F a = 0 → (∃ b, (by_ a).testBit b = true ∧ ¬ F b < 0) → (∀ b, (by_ a).testBit b = true → ¬ 0 < st1 n by_ F k b) → nxt n by_ F k a = 0) := by
  obtain ⟨s1, s2⟩ := st1_of (F := F) (k := k) hb hn a ha
  obtain ⟨t1, t2⟩ := st2_of (n := n) (by_ := by_) (F := st1 n by_ F k) (k := k) a
  unfold nxt
  refine ⟨fun h => by rw [t1 (by rw [s1 h]; exact h), s1 h], fun h h1 => ?_, fun h h1 h2 => ?_, fun h h1 h2 => ?_⟩
  · have e := (s2 h).1 fun b hb' => ⟨hbn a b hb', h1 b hb'⟩
    rw [t1 (by rw [e]; omega), e]
  · obtain ⟨b, hb1, hb2⟩ := h1
    have e := (s2 h).2 ⟨b, hb1, fun _ => hb2⟩
    obtain ⟨c, hc1, hc2⟩ := h2
    exact (t2 e).1 ⟨c, hc1, hbn a c hc1, hc2⟩
  · obtain ⟨b, hb1, hb2⟩ := h1
    have e := (s2 h).2 ⟨b, hb1, fun _ => hb2⟩
    exact (t2 e).2 fun c hc _ => h2 c hc
theorem st1_cases (hb : ∀ a, by_ a < 1024) (hn : n ≤ 10) (a : Nat) (ha : a < n) : st1 n by_ F k a = F a ∨ F a = 0 ∧ st1 n by_ F k a = k := by
  unfold st1
  split
  · rename_i h; exact .inr ⟨h.1, rfl⟩
  · exact .inl rfl
theorem nxt_cases (hk : 0 < k) (a : Nat) : nxt n by_ F k a = F a ∨ F a = 0 ∧ (nxt n by_ F k a = k ∧ st1 n by_ F k a = k ∨ nxt n by_ F k a = -k ∧ st1 n by_ F k a = 0) := by
  unfold nxt st2
  split
  · rename_i h
    refine .inr ⟨?_, .inr ⟨rfl, h.1⟩⟩
    have := h.1
    unfold st1 at this
    split at this
    · omega
    · exact this
  · unfold st1
    split
    · rename_i h; exact .inr ⟨h.1, .inl ⟨rfl, rfl⟩⟩
    · exact .inl rfl
theorem RInv.next (h : RInv n by_ F k) (hb : ∀ a, by_ a < 1024) (hbn : ∀ a b, (by_ a).testBit b = true → b < n) (hn : n ≤ 10) (hk : 0 < k) : RInv n by_ (nxt n by_ F k) (k + 1) := by
  have N := fun a ha => nxt_of (F := F) (k := k) hb hbn hn hk a ha
  have C := fun a => nxt_cases (n := n) (by_ := by_) (F := F) (k := k) hk a
  have same : ∀ b, b < n → F b ≠ 0 → nxt n by_ F k b = F b := fun b hb' h0 => (N b hb').1 h0
  have posn : ∀ b, b < n → (0 < nxt n by_ F k b → 0 < F b ∨ nxt n by_ F k b = k ∧ st1 n by_ F k b = k) := fun b hb' h0 => by
    rcases C b with e | ⟨e, ⟨e1, e2⟩ | ⟨e1, e2⟩⟩
    · exact .inl (e ▸ h0)
    · exact .inr ⟨e1, e2⟩
    · omega
  refine ⟨fun a ha => ?_, fun a ha hp => ?_, fun a ha hp => ?_, fun a ha hp => ?_⟩
  · have := h.bd a ha
    rcases C a with e | ⟨e, ⟨e1, _⟩ | ⟨e1, _⟩⟩ <;> omega
  · rcases C a with e | ⟨e, ⟨e1, e2⟩ | ⟨e1, e2⟩⟩
    · rw [e] at hp ⊢
      obtain ⟨p1, p2⟩ := h.pos a ha hp
      refine ⟨fun b hb' => ?_, ?_⟩
      · have q := p1 b hb'
        rw [same b (hbn a b hb') (by omega)]
        exact q
      · rcases p2 with p2 | ⟨b, hb', p2⟩
        · exact .inl p2
        · exact .inr ⟨b, hb', by rw [same b (hbn a b hb') (by have := (p1 b hb').1; omega)]; exact p2⟩
    · have allr : ∀ b, (by_ a).testBit b = true → F b < 0 := fun b hb' => by
        by_cases hf : F b < 0
        · exact hf
        · have := (st1_of (F := F) (k := k) hb hn a ha).2 e
          have := this.2 ⟨b, hb', fun _ => hf⟩
          omega
      refine ⟨fun b hb' => ?_, ?_⟩
      · have q := allr b hb'
        have qb := h.bd b (hbn a b hb')
        rw [same b (hbn a b hb') (by omega), e1]
        exact ⟨q, by omega⟩
      · rcases (h.zer a ha e).1 with z | ⟨b, hb', z⟩
        · exact .inl (by rw [e1, z])
        · refine .inr ⟨b, hb', ?_⟩
          have q := allr b hb'
          have qb := h.bd b (hbn a b hb')
          rw [same b (hbn a b hb') (by omega), e1]
          have : ¬ -F b < k - 1 := fun h1 => z ⟨q, h1⟩
          omega
    · omega
  · rcases C a with e | ⟨e, ⟨e1, e2⟩ | ⟨e1, e2⟩⟩
    · rw [e] at hp ⊢
      obtain ⟨⟨b, hb', p1⟩, p2⟩ := h.neg a ha hp
      refine ⟨⟨b, hb', by rw [same b (hbn a b hb') (by omega)]; exact p1⟩, fun c hc h0 => ?_⟩
      rcases posn c (hbn a c hc) h0 with q | ⟨q, _⟩
      · rw [same c (hbn a c hc) (by omega)]; exact p2 c hc q
      · have := h.bd a ha; omega
    · omega
    · have nz := (h.zer a ha e).2
      have some1 : ∃ b, (by_ a).testBit b = true ∧ 0 < st1 n by_ F k b := by
        by_cases hs : ∃ b, (by_ a).testBit b = true ∧ 0 < st1 n by_ F k b
        · exact hs
        · have := ((st2_of (n := n) (by_ := by_) (F := st1 n by_ F k) (k := k) a).2 e2).2 fun b hb' _ h0 => hs ⟨b, hb', h0⟩
          unfold nxt at e1
          omega
      obtain ⟨b, hb', hs⟩ := some1
      have sb : st1 n by_ F k b = k := by
        rcases st1_cases (F := F) (k := k) hb hn b (hbn a b hb') with q | ⟨_, q⟩
        · exact absurd (q ▸ hs) (nz b hb')
        · exact q
      have nb : nxt n by_ F k b = k := by
        unfold nxt
        rw [(st2_of (n := n) (by_ := by_) (F := st1 n by_ F k) (k := k) b).1 (by omega), sb]
      refine ⟨⟨b, hb', by rw [nb, e1]; omega⟩, fun c hc h0 => ?_⟩
      rcases posn c (hbn a c hc) h0 with q | ⟨q, _⟩
      · exact absurd q (nz c hc)
      · omega
  · rcases C a with e | ⟨e, ⟨e1, e2⟩ | ⟨e1, e2⟩⟩
    · have e0 : F a = 0 := e ▸ hp
      have z := h.zer a ha e0
      have s := (st1_of (F := F) (k := k) hb hn a ha).2 e0
      have ex : ∃ b, (by_ a).testBit b = true ∧ ¬ F b < 0 := by
        by_cases hs : ∃ b, (by_ a).testBit b = true ∧ ¬ F b < 0
        · exact hs
        · have := (N a ha).2.1 e0 fun b hb' => by
            by_cases hf : F b < 0
            · exact hf
            · exact absurd ⟨b, hb', hf⟩ hs
          omega
      refine ⟨.inr ?_, fun c hc h0 => ?_⟩
      · obtain ⟨b, hb', hf⟩ := ex
        refine ⟨b, hb', fun hh => ?_⟩
        rcases C b with q | ⟨q, ⟨q1, _⟩ | ⟨q1, _⟩⟩ <;> omega
      · rcases posn c (hbn a c hc) h0 with q | ⟨_, q⟩
        · exact z.2 c hc q
        · have := (N a ha).2.2.1 e0 ex ⟨c, hc, by omega⟩
          omega
    · omega
    · omega
theorem bef_mono (hb : ∀ a, by_ a < 1024) (hbn : ∀ a b, (by_ a).testBit b = true → b < n) (hn : n ≤ 10) (hk : 0 < k) : bef n F ≤ bef n (nxt n by_ F k) := by
  have e : bef n F ||| bef n (nxt n by_ F k) = bef n (nxt n by_ F k) := by
    apply Nat.eq_of_testBit_eq
    intro i
    rw [Nat.testBit_or]
    by_cases hi : i < n
    · rw [bef_bit _ hi, bef_bit _ hi]
      by_cases h0 : F i = 0
      · simp [h0]
      · simp [(nxt_of (F := F) (k := k) hb hbn hn hk i hi).1 h0, h0]
    · have z : ∀ G : Nat → Int, (bef n G).testBit i = false := fun G => Nat.testBit_lt_two_pow (Nat.lt_of_lt_of_le (bef_lt n G) (Nat.pow_le_pow_right (by omega) (by omega)))
      rw [z, z]; rfl
  rw [← e]
  exact Nat.left_le_or
theorem bef_same (he : bef n (nxt n by_ F k) = bef n F) (hb : ∀ a, by_ a < 1024) (hbn : ∀ a b, (by_ a).testBit b = true → b < n) (hn : n ≤ 10) (hk : 0 < k) (a : Nat) (ha : a < n) : nxt n by_ F k a = F a := by
  by_cases h0 : F a = 0
  · have h1 := bef_bit (nxt n by_ F k) ha
    rw [he, bef_bit _ ha] at h1
    simp [h0] at h1
    rw [h1, h0]
  · exact (nxt_of (F := F) (k := k) hb hbn hn hk a ha).1 h0
/-- What holds in the end. -/
structure RFin (n : Nat) (by_ : Nat → Nat) (F : Nat → Int) : Prop where
  bd : ∀ a, a < n → -1024 ≤ F a ∧ F a ≤ 1024
  pos : ∀ a, a < n → 0 < F a → (∀ b, (by_ a).testBit b = true → F b < 0 ∧ -F b < F a) ∧ (F a = 1 ∨ ∃ b, (by_ a).testBit b = true ∧ -F b = F a - 1)
  neg : ∀ a, a < n → F a < 0 → (∃ b, (by_ a).testBit b = true ∧ F b = -F a) ∧ ∀ b, (by_ a).testBit b = true → 0 < F b → -F a ≤ F b
  zer : ∀ a, a < n → F a = 0 → (∃ b, (by_ a).testBit b = true ∧ ¬ F b < 0) ∧ ∀ b, (by_ a).testBit b = true → ¬ 0 < F b
theorem RInv.fin (h : RInv n by_ F k) (hb : ∀ a, by_ a < 1024) (hbn : ∀ a b, (by_ a).testBit b = true → b < n) (hn : n ≤ 10) (hk : 0 < k) (hk2 : k ≤ 1024) (he : bef n (nxt n by_ F k) = bef n F) : RFin n by_ (nxt n by_ F k) := by
  have S := fun a ha => bef_same he hb hbn hn hk a ha
  have h2 := h.next hb hbn hn hk
  refine ⟨fun a ha => by rw [S a ha]; have := h.bd a ha; omega, h2.pos, h2.neg, fun a ha h0 => ?_⟩
  obtain ⟨z1, z2⟩ := h2.zer a ha h0
  refine ⟨?_, z2⟩
  rcases z1 with z1 | ⟨b, hb', z1⟩
  · omega
  · refine ⟨b, hb', fun hf => z1 ⟨hf, ?_⟩⟩
    have := h.bd b (hbn a b hb')
    rw [S b (hbn a b hb')]
    omega
end
theorem mask_eq {n x y : Nat} (hx : x < 2 ^ n) (hy : y < 2 ^ n) (h : ∀ i, i < n → x.testBit i = y.testBit i) : x = y := by
  apply Nat.eq_of_testBit_eq
  intro i
  by_cases hi : i < n
  · exact h i hi
  · have e := Nat.pow_le_pow_right (n := 2) (by omega) (show n ≤ i by omega)
    rw [Nat.testBit_lt_two_pow (Nat.lt_of_lt_of_le hx e), Nat.testBit_lt_two_pow (Nat.lt_of_lt_of_le hy e)]
section
variable {n : Nat} {by_ : Nat → Nat} {F : Nat → Int} {k : Int}
theorem acc_step (hk : 0 < k) : accM n F ||| mk (fun a => decide (0 < st1 n by_ F k a)) n = accM n (st1 n by_ F k) := by
  refine mask_eq (Nat.or_lt_two_pow (mk_lt _ _) (mk_lt _ _)) (mk_lt _ _) fun i hi => ?_
  unfold accM
  rw [Nat.testBit_or, mk_bit, mk_bit]
  simp only [hi, decide_true, Bool.true_and]
  unfold st1
  split
  · rename_i h; simp [h.1]
  · simp
theorem rej_step (hk : 0 < k) : rejM n F = rejM n (st1 n by_ F k) := by
  refine mask_eq (mk_lt _ _) (mk_lt _ _) fun i hi => ?_
  unfold rejM
  rw [mk_bit, mk_bit]
  simp only [hi, decide_true, Bool.true_and]
  unfold st1
  split
  · rename_i h; simp [h.1]; omega
  · rfl
theorem acc_step2 (hk : 0 < k) : accM n F = accM n (st2 n by_ F k) := by
  refine mask_eq (mk_lt _ _) (mk_lt _ _) fun i hi => ?_
  unfold accM
  rw [mk_bit, mk_bit]
  simp only [hi, decide_true, Bool.true_and]
  unfold st2
  split
  · rename_i h; simp [h.1]; omega
  · rfl
theorem rej_step2 (hk : 0 < k) : rejM n F ||| mk (fun a => decide (st2 n by_ F k a < 0)) n = rejM n (st2 n by_ F k) := by
  refine mask_eq (Nat.or_lt_two_pow (mk_lt _ _) (mk_lt _ _)) (mk_lt _ _) fun i hi => ?_
  unfold rejM
  rw [Nat.testBit_or, mk_bit, mk_bit]
  simp only [hi, decide_true, Bool.true_and]
  unfold st2
  split
  · rename_i h; simp [h.1]
  · simp
end
theorem mk_yes {p : Nat → Bool} {k : Nat} (X : Nat) (h : p k = true) : X ||| mk p (k + 1) = (X ||| mk p k) ||| 2 ^ k := by
  rw [show mk p (k + 1) = mk p k ||| 2 ^ k by simp [mk, h], Nat.or_assoc]
theorem mk_no {p : Nat → Bool} {k : Nat} (h : p k = false) : mk p (k + 1) = mk p k := by simp [mk, h]
theorem lst_go {n j : Nat} {F G : Nat → Int} (h : F j = G j) : lst n (fun a => if a < j then G a else F a) = lst n (fun a => if a < j + 1 then G a else F a) := by
  refine lst_congr fun a _ => ?_
  by_cases h1 : a < j
  · rw [if_pos h1, if_pos (by omega)]
  · by_cases h2 : a = j
    · subst h2; rw [if_neg h1, if_pos (by omega)]; exact h
    · rw [if_neg h1, if_neg (by omega)]
theorem lst_put {n j : Nat} {F G : Nat → Int} {z : Int} (h : G j = z) : (lst n (fun a => if a < j then G a else F a)).set j z = lst n (fun a => if a < j + 1 then G a else F a) := by
  rw [lst_set]
  refine lst_congr fun a _ => ?_
  by_cases h2 : a = j
  · subst h2; rw [if_pos rfl, if_pos (by omega)]; exact h.symm
  · rw [if_neg h2]
    by_cases h1 : a < j
    · rw [if_pos h1, if_pos (by omega)]
    · rw [if_neg h1, if_neg (by omega)]
theorem lst_zero (n : Nat) (F G : Nat → Int) : lst n (fun a => if a < 0 then G a else F a) = lst n F := lst_congr fun a _ => if_neg (by omega)
theorem lst_end (n : Nat) (F G : Nat → Int) : lst n (fun a => if a < n then G a else F a) = lst n G := lst_congr fun a h => if_pos h
theorem accM_zero (n : Nat) : accM n (fun _ => 0) = 0 := by
  refine mask_eq (n := n) (mk_lt _ _) (Nat.two_pow_pos n) fun i hi => ?_
  unfold accM; rw [mk_bit]; simp
theorem rejM_zero (n : Nat) : rejM n (fun _ => 0) = 0 := by
  refine mask_eq (n := n) (mk_lt _ _) (Nat.two_pow_pos n) fun i hi => ?_
  unfold rejM; rw [mk_bit]; simp
theorem pow10 {n x : Nat} (hn : n ≤ 10) (h : x < 2 ^ n) : x < 1024 := Nat.lt_of_lt_of_le h (Nat.le_trans (Nat.pow_le_pow_right (by omega) hn) (by decide))
end Go.Proofs.Yteejfjgofpolkaa
