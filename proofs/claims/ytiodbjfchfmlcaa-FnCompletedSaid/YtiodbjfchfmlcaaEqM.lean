/- Equal shares: mathematics. -/
import Derived.Test.YtiodbjfchfmlcaaPhM
namespace Go.Proofs.Ytiodbjfchfmlcaa
set_option linter.unusedVariables false
set_option linter.unusedSimpArgs false
theorem sumV_lt {f g : Nat → Int} {l : List Nat} (h : ∀ a ∈ l, f a ≤ g a) {v : Nat} (hv : v ∈ l) (hl : f v < g v) : sumV f l < sumV g l := by
  induction l with
  | nil => cases hv
  | cons a l ih =>
    rw [sumV_cons, sumV_cons]
    have h1 := h a (List.mem_cons_self ..)
    have h2 := sumV_le (f := f) (g := g) (l := l) (fun b hb => h b (List.mem_cons_of_mem _ hb))
    rcases List.mem_cons.1 hv with rfl | hv
    · omega
    · have := ih (fun b hb => h b (List.mem_cons_of_mem _ hb)) hv
      omega
theorem perm_sum {a b : List Int} (h : a.Perm b) : a.sum = b.sum := by
  induction h with
  | nil => rfl
  | cons x h ih => rw [List.sum_cons, List.sum_cons, ih]
  | swap x y l => rw [List.sum_cons, List.sum_cons, List.sum_cons, List.sum_cons]; omega
  | trans h1 h2 i1 i2 => exact i1.trans i2
/-- The price: what is left, and among how many. -/
def prc : List Int → Int → Option (Int × Nat)
  | [], _ => none
  | p :: L, left => if left ≤ p * ((L.length + 1 : Nat) : Int) then some (left, L.length + 1) else prc L (left - p)
theorem prc_some {L : List Int} (hs : L.Pairwise (· ≤ ·)) (h0 : ∀ p ∈ L, 0 ≤ p) : ∀ {left r : Int} {m : Nat}, 0 < left → prc L left = some (r, m) →
    1 ≤ m ∧ m ≤ L.length ∧ 0 < r ∧ r ≤ left ∧ (L.map fun p => min r (p * m)).sum = left * m ∧ (∃ p ∈ L, r ≤ p * m) ∧ ∀ q : Int, 0 ≤ q → (∀ p ∈ L, q ≤ p) → q * L.length ≤ left → q * m ≤ r := by
  induction L with
  | nil => intro left r m _ h; cases h
  | cons p L ih =>
    intro left r m hl h
    unfold prc at h
    have hp := h0 p (List.mem_cons_self ..)
    rw [List.pairwise_cons] at hs
    split at h
    · rename_i hle
      injection h with h
      injection h with e1 e2
      subst e1
      subst e2
      refine ⟨by omega, by simp, hl, Int.le_refl _, ?_, ⟨p, List.mem_cons_self .., hle⟩, fun q hq hpq hqm => by simpa using hqm⟩
      have : ∀ (M : List Int), (∀ q ∈ M, left ≤ q * ((L.length + 1 : Nat) : Int)) → (M.map fun p => min left (p * ((L.length + 1 : Nat) : Int))).sum = left * M.length := by
        intro M
        induction M with
        | nil => intro _; simp
        | cons a M ihM =>
          intro hM
          rw [List.map_cons, List.sum_cons, ihM (fun q hq => hM q (List.mem_cons_of_mem _ hq)), Int.min_eq_left (hM a (List.mem_cons_self ..)), List.length_cons]
          push_cast
          rw [Int.mul_add]
          omega
      rw [this (p :: L) ?_, List.length_cons]
      intro q hq
      rcases List.mem_cons.1 hq with rfl | hq
      · exact hle
      · exact Int.le_trans hle (Int.mul_le_mul_of_nonneg_right (hs.1 q hq) (by omega))
    · rename_i hgt
      have hge : p * ((L.length + 1 : Nat) : Int) < left := by omega
      have hp1 : p * ((L.length + 1 : Nat) : Int) = p * L.length + p := by push_cast; rw [Int.mul_add]; omega
      have hpL : 0 ≤ p * (L.length : Int) := Int.mul_nonneg hp (by omega)
      obtain ⟨i1, i2, i3, i4, i5, i6, i7⟩ := ih hs.2 (fun q hq => h0 q (List.mem_cons_of_mem _ hq)) (left := left - p) (by omega) h
      have hpm := i7 p hp hs.1 (by omega)
      refine ⟨i1, by simp; omega, i3, by omega, ?_, ?_, fun q hq hpq hqm => ?_⟩
      · rw [List.map_cons, List.sum_cons, i5, Int.min_eq_right hpm, Int.sub_mul]
        omega
      · obtain ⟨x, hx, hr⟩ := i6
        exact ⟨x, List.mem_cons_of_mem _ hx, hr⟩
      · exact Int.le_trans (Int.mul_le_mul_of_nonneg_right (hpq p (List.mem_cons_self ..)) (by omega)) hpm
theorem prc_none {L : List Int} (h0 : ∀ p ∈ L, 0 ≤ p) : ∀ {left : Int}, 0 < left → prc L left = none → L.sum < left := by
  induction L with
  | nil => intro left hl _; simpa using hl
  | cons p L ih =>
    intro left hl h
    unfold prc at h
    have hp := h0 p (List.mem_cons_self ..)
    split at h
    · cases h
    · rename_i hgt
      have hp1 : p * ((L.length + 1 : Nat) : Int) = p * L.length + p := by push_cast; rw [Int.mul_add]; omega
      have hpL : 0 ≤ p * (L.length : Int) := Int.mul_nonneg hp (by omega)
      have := ih (fun q hq => h0 q (List.mem_cons_of_mem _ hq)) (left := left - p) (by omega) h
      rw [List.sum_cons]
      omega
/-- The purses of the supporters, and these in order. -/
def supP (P : List Int) (ap : List (List Int)) (x : Nat) : List Int := (supN ap (x : Int) ap.length).map fun v => P.getD v 0
def srtI (l : List Int) : List Int := l.mergeSort fun a b => decide (a ≤ b)
theorem srtI_perm (l : List Int) : (srtI l).Perm l := List.mergeSort_perm ..
theorem srtI_asc (l : List Int) : (srtI l).Pairwise (· ≤ ·) := by
  have := List.pairwise_mergeSort (le := fun a b : Int => decide (a ≤ b)) (by intro a b c h1 h2; simp at *; omega) (by intro a b; simp; omega) l
  exact this.imp fun h => by simpa using h
theorem srtI_eq {l m : List Int} (hp : m.Perm l) (hs : m.Pairwise (· ≤ ·)) : m = srtI l :=
  List.Perm.eq_of_pairwise (le := (· ≤ ·)) (fun a b _ _ h1 h2 => Int.le_antisymm h1 h2) hs (srtI_asc l) (hp.trans (srtI_perm l).symm)
theorem srtI_len (l : List Int) : (srtI l).length = l.length := (srtI_perm l).length_eq
/-- The price of a project for purses over D. -/
def priceS (cs : List Int) (ap : List (List Int)) (S : Int × List Int) (x : Nat) : Option (Int × Nat) := prc (srtI (supP S.2 ap x)) (cs.getD x 0 * S.1)
/-- What is left of the purses behind a purchase. -/
def leftP (ap : List (List Int)) (x : Nat) (r : Int) (m : Nat) (P : List Int) : List Int := P.zipIdx.map fun q => q.1 * m - (if sup1 ap (x : Int) q.2 then min r (q.1 * m) else 0)
theorem leftP_len (ap : List (List Int)) (x : Nat) (r : Int) (m : Nat) (P : List Int) : (leftP ap x r m P).length = P.length := by simp [leftP]
theorem leftP_at {ap : List (List Int)} {x : Nat} {r : Int} {m : Nat} {P : List Int} {v : Nat} {p : Int} (h : P[v]? = some p) : (leftP ap x r m P)[v]? = some (p * m - (if sup1 ap (x : Int) v then min r (p * m) else 0)) := by
  simp [leftP, List.getElem?_zipIdx, h]
theorem leftP_getD {ap : List (List Int)} {x : Nat} {r : Int} {m : Nat} {P : List Int} {v : Nat} (hv : v < P.length) : (leftP ap x r m P).getD v 0 = P.getD v 0 * m - (if sup1 ap (x : Int) v then min r (P.getD v 0 * m) else 0) := by
  have h := List.getElem?_eq_getElem hv
  rw [List.getD_eq_getElem?_getD, leftP_at h, List.getD_eq_getElem?_getD, h]
  rfl
def buyS (cs : List Int) (ap : List (List Int)) (S : Int × List Int) (x : Nat) : Option (Int × List Int) :=
  match priceS cs ap S x with
  | none => none
  | some (r, m) => some (S.1 * m, leftP ap x r m S.2)
/-- The state behind an order. -/
def bgtF (cs : List Int) (ap : List (List Int)) (S : Int × List Int) : List Nat → Option (Int × List Int)
  | [] => some S
  | x :: L => match buyS cs ap S x with
    | none => none
    | some T => bgtF cs ap T L
theorem bgtF_snoc {cs : List Int} {ap : List (List Int)} : ∀ {L : List Nat} {S T : Int × List Int} (x : Nat), bgtF cs ap S L = some T → bgtF cs ap S (L ++ [x]) = buyS cs ap T x
  | [], S, T, x, h => by
    injection h with h
    subst h
    show (match buyS cs ap S x with | none => none | some T => bgtF cs ap T []) = _
    cases buyS cs ap S x <;> rfl
  | y :: L, S, T, x, h => by
    show (match buyS cs ap S y with | none => none | some T => bgtF cs ap T (L ++ [x])) = _
    have h' : (match buyS cs ap S y with | none => none | some T => bgtF cs ap T L) = some T := h
    cases hy : buyS cs ap S y with
    | none => rw [hy] at h'; cases h'
    | some U => rw [hy] at h'; exact bgtF_snoc x h'
def start (e : El) : Int × List Int := ((e.ap.length : Int), List.replicate e.ap.length e.mon)
def bgt (e : El) (L : List Nat) : Option (Int × List Int) := bgtF e.cs e.ap (start e) L
/-- An election with money up to that of the completion. -/
structure EOk' (e : El) : Prop where
  mon : 0 ≤ e.mon ∧ e.mon ≤ 360
  cs1 : 1 ≤ e.cs.length ∧ e.cs.length ≤ 6
  ap1 : 1 ≤ e.ap.length ∧ e.ap.length ≤ 6
  cost : ∀ c ∈ e.cs, 1 ≤ c ∧ c ≤ 60
  set : ∀ r ∈ e.ap, SetP r e.cs.length
theorem EOk.wide {e : El} (h : EOk e) : EOk' e := ⟨⟨h.mon.1, by have := h.mon.2; omega⟩, h.cs1, h.ap1, h.cost, h.set⟩
theorem EOk'.costx {e : El} (h : EOk' e) {x : Nat} (hx : x < e.cs.length) : 1 ≤ e.cs.getD x 0 ∧ e.cs.getD x 0 ≤ 60 := by
  rw [List.getD_eq_getElem?_getD, List.getElem?_eq_getElem hx]
  exact h.cost _ (List.getElem_mem hx)
/-- The costs of an order. -/
def costL (cs : List Int) (L : List Nat) : Int := (L.map fun x => cs.getD x 0).sum
/-- A sound state behind k purchases. -/
structure StOk (e : El) (k : Nat) (c : Int) (S : Int × List Int) : Prop where
  d1 : 1 ≤ S.1
  d2 : S.1 ≤ 6 ^ (k + 1)
  len : S.2.length = e.ap.length
  p0 : ∀ p ∈ S.2, 0 ≤ p
  p1 : ∀ p ∈ S.2, p ≤ e.mon * S.1
  sum : S.2.sum = (e.mon - c) * S.1
theorem StOk.at {e : El} {k : Nat} {c : Int} {S : Int × List Int} (h : StOk e k c S) (he : EOk' e) (v : Nat) : 0 ≤ S.2.getD v 0 ∧ S.2.getD v 0 ≤ e.mon * S.1 := by
  rw [List.getD_eq_getElem?_getD]
  by_cases hv : v < S.2.length
  · rw [List.getElem?_eq_getElem hv]
    exact ⟨h.p0 _ (List.getElem_mem hv), h.p1 _ (List.getElem_mem hv)⟩
  · rw [List.getElem?_eq_none (by omega)]
    exact ⟨Int.le_refl _, Int.mul_nonneg he.mon.1 (by have := h.d1; omega)⟩
theorem supP_nonneg {e : El} {k : Nat} {c : Int} {S : Int × List Int} (h : StOk e k c S) (he : EOk' e) (x : Nat) : ∀ p ∈ srtI (supP S.2 e.ap x), 0 ≤ p := by
  intro p hp
  obtain ⟨v, _, rfl⟩ := List.mem_map.1 ((srtI_perm _).mem_iff.1 hp)
  exact (h.at he v).1
theorem start_ok {e : El} (he : EOk' e) : StOk e 0 0 (start e) := by
  have := he.ap1
  refine ⟨by show (1 : Int) ≤ (e.ap.length : Int); omega, by show (e.ap.length : Int) ≤ _; omega, by simp [start], fun p hp => ?_, fun p hp => ?_, ?_⟩
  · rw [(List.mem_replicate.1 hp).2]; exact he.mon.1
  · rw [(List.mem_replicate.1 hp).2]
    show e.mon ≤ e.mon * (e.ap.length : Int)
    have := Int.mul_le_mul_of_nonneg_left (show (1 : Int) ≤ (e.ap.length : Int) by omega) he.mon.1
    rw [Int.mul_one] at this
    exact this
  · show (List.replicate e.ap.length e.mon).sum = (e.mon - 0) * (e.ap.length : Int)
    have : ∀ (n : Nat) (c : Int), (List.replicate n c).sum = c * n := by
      intro n c
      induction n with
      | zero => simp
      | succ n ih => rw [List.replicate_succ, List.sum_cons, ih]; push_cast; rw [Int.mul_add]; omega
    rw [this, Int.sub_zero]
/-- What a price is. -/
theorem price_some {e : El} {k : Nat} {c : Int} {S : Int × List Int} (h : StOk e k c S) (he : EOk' e) {x : Nat} (hx : x < e.cs.length) {r : Int} {m : Nat} (hp : priceS e.cs e.ap S x = some (r, m)) :
    1 ≤ m ∧ m ≤ 6 ∧ 0 < r ∧ r ≤ 60 * S.1 ∧ sumV (fun v => min r (S.2.getD v 0 * m)) (supN e.ap (x : Int) e.ap.length) = e.cs.getD x 0 * S.1 * m ∧ ∃ v ∈ supN e.ap (x : Int) e.ap.length, r ≤ S.2.getD v 0 * m := by
  have hc := he.costx hx
  have hd := h.d1
  have hl := Int.mul_pos (a := e.cs.getD x 0) (b := S.1) (by omega) (by omega)
  obtain ⟨i1, i2, i3, i4, i5, i6, i7⟩ := prc_some (srtI_asc _) (supP_nonneg h he x) hl hp
  have l1 : (srtI (supP S.2 e.ap x)).length = (supN e.ap (x : Int) e.ap.length).length := by rw [srtI_len]; simp [supP]
  have l2 := supN_len e.ap (x : Int) e.ap.length
  have l3 := he.ap1
  have l4 : e.cs.getD x 0 * S.1 ≤ 60 * S.1 := Int.mul_le_mul_of_nonneg_right hc.2 (by omega)
  refine ⟨i1, by omega, i3, by omega, ?_, ?_⟩
  · rw [← i5]
    unfold sumV
    rw [perm_sum ((srtI_perm (supP S.2 e.ap x)).map _), supP, List.map_map]
    rfl
  · obtain ⟨p, hp, hr⟩ := i6
    obtain ⟨v, hv, rfl⟩ := List.mem_map.1 ((srtI_perm _).mem_iff.1 hp)
    exact ⟨v, hv, hr⟩
theorem price_none {e : El} {k : Nat} {c : Int} {S : Int × List Int} (h : StOk e k c S) (he : EOk' e) {x : Nat} (hx : x < e.cs.length) (hp : priceS e.cs e.ap S x = none) :
    sumV (fun v => S.2.getD v 0) (supN e.ap (x : Int) e.ap.length) < e.cs.getD x 0 * S.1 := by
  have hc := he.costx hx
  have hd := h.d1
  have hl := Int.mul_pos (a := e.cs.getD x 0) (b := S.1) (by omega) (by omega)
  have := prc_none (supP_nonneg h he x) hl hp
  rw [perm_sum (srtI_perm _)] at this
  exact this
theorem sum_leftP (ap : List (List Int)) (x : Nat) (r : Int) (m : Nat) (P : List Int) (hn : P.length = ap.length) :
    (leftP ap x r m P).sum = P.sum * m - sumV (fun v => min r (P.getD v 0 * m)) (supN ap (x : Int) ap.length) := by
  have key : ∀ k, k ≤ P.length → ((leftP ap x r m P).take k).sum = (P.take k).sum * m - sumV (fun v => min r (P.getD v 0 * m)) (supN ap (x : Int) k) := by
    intro k
    induction k with
    | zero => intro _; simp [supN, sumV]
    | succ k ih =>
      intro hk
      have h1 := List.getElem?_eq_getElem (show k < P.length by omega)
      have h2 := leftP_at (ap := ap) (x := x) (r := r) (m := m) h1
      rw [List.take_add_one, h2, List.take_add_one, h1, List.sum_append, List.sum_append, ih (by omega)]
      have gd : P.getD k 0 = P[k] := by rw [List.getD_eq_getElem?_getD, h1]; rfl
      cases hs : sup1 ap (x : Int) k
      · rw [supN_no hs]
        simp
        rw [Int.add_mul]
        omega
      · rw [supN_yes hs, sumV_snoc, gd]
        simp
        rw [Int.add_mul]
        omega
  have := key P.length (Nat.le_refl _)
  rw [List.take_of_length_le (by rw [leftP_len]; exact Nat.le_refl _), List.take_length] at this
  rw [this, hn]
theorem buy_ok {e : El} {k : Nat} {c : Int} {S T : Int × List Int} (h : StOk e k c S) (he : EOk' e) {x : Nat} (hx : x < e.cs.length) (hb : buyS e.cs e.ap S x = some T) : StOk e (k + 1) (c + e.cs.getD x 0) T := by
  unfold buyS at hb
  cases hp : priceS e.cs e.ap S x with
  | none => rw [hp] at hb; cases hb
  | some q =>
    obtain ⟨r, m⟩ := q
    rw [hp] at hb
    injection hb with hb
    subst hb
    obtain ⟨m1, m6, r0, r1, hs, hv⟩ := price_some h he hx hp
    have hd := h.d1
    have hd2 := h.d2
    have each : ∀ q ∈ leftP e.ap x r m S.2, ∃ p ∈ S.2, 0 ≤ q ∧ q ≤ p * m := by
      intro q hq
      obtain ⟨v, hv, hvq⟩ := List.getElem_of_mem hq
      rw [leftP_len] at hv
      have h1 := List.getElem?_eq_getElem hv
      have h2 := leftP_at (ap := e.ap) (x := x) (r := r) (m := m) h1
      rw [List.getElem?_eq_getElem (by rw [leftP_len]; exact hv)] at h2
      injection h2 with h2
      rw [hvq] at h2
      refine ⟨S.2[v], List.getElem_mem hv, ?_⟩
      have p0 := h.p0 _ (List.getElem_mem hv)
      have p1 := Int.mul_nonneg p0 (show (0 : Int) ≤ (m : Int) by omega)
      rw [h2]
      split <;> omega
    refine ⟨?_, ?_, ?_, fun q hq => ?_, fun q hq => ?_, ?_⟩
    · show 1 ≤ S.1 * (m : Int)
      have := Int.mul_pos (a := S.1) (b := (m : Int)) (by omega) (by omega)
      omega
    · show S.1 * (m : Int) ≤ 6 ^ (k + 1 + 1)
      have := Int.mul_le_mul_of_nonneg_left (show (m : Int) ≤ 6 by omega) (show 0 ≤ S.1 by omega)
      rw [Int.pow_succ]
      omega
    · show (leftP e.ap x r m S.2).length = _
      rw [leftP_len, h.len]
    · obtain ⟨p, _, h1, _⟩ := each q hq
      exact h1
    · obtain ⟨p, hp', h1, h2⟩ := each q hq
      have := Int.mul_le_mul_of_nonneg_right (h.p1 p hp') (show (0 : Int) ≤ (m : Int) by omega)
      show q ≤ e.mon * (S.1 * m)
      rw [← Int.mul_assoc]
      omega
    · show (leftP e.ap x r m S.2).sum = (e.mon - (c + e.cs.getD x 0)) * (S.1 * m)
      rw [sum_leftP _ _ _ _ _ h.len, hs, h.sum, ← Int.mul_assoc, Int.sub_mul, Int.sub_mul, Int.sub_mul, Int.sub_mul, Int.add_mul, Int.add_mul]
      omega
theorem bgtF_ok {e : El} (he : EOk' e) : ∀ {L : List Nat} {k : Nat} {c : Int} {S T : Int × List Int}, (∀ x ∈ L, x < e.cs.length) → StOk e k c S → bgtF e.cs e.ap S L = some T → StOk e (k + L.length) (c + costL e.cs L) T
  | [], k, c, S, T, _, h, hb => by
    injection hb with hb
    subst hb
    simpa [costL] using h
  | x :: L, k, c, S, T, hL, h, hb => by
    have hb' : (match buyS e.cs e.ap S x with | none => none | some T => bgtF e.cs e.ap T L) = some T := hb
    cases hy : buyS e.cs e.ap S x with
    | none => rw [hy] at hb'; cases hb'
    | some U =>
      rw [hy] at hb'
      have := bgtF_ok he (fun y hy => hL y (List.mem_cons_of_mem _ hy)) (buy_ok h he (hL x (List.mem_cons_self ..)) hy) hb'
      rw [List.length_cons, show k + (L.length + 1) = k + 1 + L.length by omega]
      have e2 : costL e.cs (x :: L) = e.cs.getD x 0 + costL e.cs L := by simp [costL]
      rw [e2, ← Int.add_assoc]
      exact this
theorem bgt_ok {e : El} (he : EOk' e) {L : List Nat} {T : Int × List Int} (hL : ∀ x ∈ L, x < e.cs.length) (hb : bgt e L = some T) : StOk e L.length (costL e.cs L) T := by
  have := bgtF_ok he hL (start_ok he) hb
  rwa [Nat.zero_add, Int.zero_add] at this
/-- The purses of T are at most those of S. -/
structure Fell (S T : Int × List Int) (c : Int) : Prop where
  c1 : 1 ≤ c
  d : T.1 = S.1 * c
  len : T.2.length = S.2.length
  le : ∀ v, T.2.getD v 0 ≤ S.2.getD v 0 * c
theorem Fell.refl (S : Int × List Int) : Fell S S 1 := ⟨Int.le_refl _, by rw [Int.mul_one], rfl, fun v => by rw [Int.mul_one]; exact Int.le_refl _⟩
theorem Fell.trans {S T U : Int × List Int} {c d : Int} (h : Fell S T c) (k : Fell T U d) : Fell S U (c * d) := by
  refine ⟨?_, by rw [k.d, h.d, Int.mul_assoc], by rw [k.len, h.len], fun v => ?_⟩
  · have := Int.mul_pos (a := c) (b := d) (by have := h.c1; omega) (by have := k.c1; omega)
    omega
  · have := Int.mul_le_mul_of_nonneg_right (h.le v) (show 0 ≤ d by have := k.c1; omega)
    have := k.le v
    rw [← Int.mul_assoc]
    omega
theorem buy_fell {e : El} {k : Nat} {c : Int} {S T : Int × List Int} (h : StOk e k c S) (he : EOk' e) {x : Nat} (hx : x < e.cs.length) (hb : buyS e.cs e.ap S x = some T) : ∃ d, Fell S T d := by
  unfold buyS at hb
  cases hp : priceS e.cs e.ap S x with
  | none => rw [hp] at hb; cases hb
  | some q =>
    obtain ⟨r, m⟩ := q
    rw [hp] at hb
    injection hb with hb
    subst hb
    obtain ⟨m1, m6, r0, r1, hs, hv⟩ := price_some h he hx hp
    refine ⟨(m : Int), by omega, rfl, leftP_len _ _ _ _ _, fun v => ?_⟩
    show (leftP e.ap x r m S.2).getD v 0 ≤ _
    by_cases hv : v < S.2.length
    · rw [leftP_getD hv]
      have := Int.mul_nonneg (h.at he v).1 (show (0 : Int) ≤ (m : Int) by omega)
      split <;> omega
    · rw [List.getD_eq_getElem?_getD, List.getElem?_eq_none (by rw [leftP_len]; omega), List.getD_eq_getElem?_getD, List.getElem?_eq_none (by omega)]
      simp
/-- A project that is affordable later was so before, and not at a greater price. -/
theorem price_later {e : El} {k j : Nat} {c c' d : Int} {S T : Int × List Int} (h : StOk e k c S) (h' : StOk e j c' T) (he : EOk' e) (hf : Fell S T d) {x : Nat} (hx : x < e.cs.length) {r' : Int} {m' : Nat} (hp : priceS e.cs e.ap T x = some (r', m')) :
    ∃ r m, priceS e.cs e.ap S x = some (r, m) ∧ r * d * m' ≤ r' * m := by
  obtain ⟨a1, a6, b0, b1, hs', _⟩ := price_some h' he hx hp
  have hd := h.d1
  have d1 := hf.c1
  have fle : ∀ v, T.2.getD v 0 ≤ S.2.getD v 0 * d := hf.le
  rw [hf.d] at hs'
  cases hq : priceS e.cs e.ap S x with
  | none =>
    exfalso
    have hn := price_none h he hx hq
    have t1 : sumV (fun v => min r' (T.2.getD v 0 * m')) (supN e.ap (x : Int) e.ap.length) ≤ sumV (fun v => S.2.getD v 0 * (d * m')) (supN e.ap (x : Int) e.ap.length) := by
      refine sumV_le fun v _ => ?_
      have := Int.mul_le_mul_of_nonneg_right (fle v) (show (0 : Int) ≤ (m' : Int) by omega)
      rw [← Int.mul_assoc]
      omega
    rw [sumV_mul, hs'] at t1
    have dm := Int.mul_pos (a := d) (b := (m' : Int)) (by omega) (by omega)
    have t2 := Int.mul_lt_mul_of_pos_right hn dm
    have e1 : e.cs.getD x 0 * (S.1 * d) * (m' : Int) = e.cs.getD x 0 * S.1 * (d * m') := by ac_rfl
    omega
  | some q =>
    obtain ⟨r, m⟩ := q
    obtain ⟨m1, m6, r0, r1, hs, v, hv, hrv⟩ := price_some h he hx hq
    refine ⟨r, m, rfl, ?_⟩
    rcases Int.lt_or_le (r' * m) (r * d * m') with hlt | hge
    · exfalso
      have dm := Int.mul_pos (a := d) (b := (m' : Int)) (by omega) (by omega)
      -- scaled sums
      have s1 : sumV (fun v => min r' (T.2.getD v 0 * m') * (m : Int)) (supN e.ap (x : Int) e.ap.length) < sumV (fun v => min r (S.2.getD v 0 * m) * (d * m')) (supN e.ap (x : Int) e.ap.length) := by
        have mm : ∀ (a b c : Int), 0 ≤ c → min a b * c = min (a * c) (b * c) := by
          intro a b c hc
          rcases Int.le_total a b with h1 | h1
          · rw [Int.min_eq_left h1, Int.min_eq_left (Int.mul_le_mul_of_nonneg_right h1 hc)]
          · rw [Int.min_eq_right h1, Int.min_eq_right (Int.mul_le_mul_of_nonneg_right h1 hc)]
        have ra : r * (d * m') = r * d * m' := by rw [Int.mul_assoc]
        have tle : ∀ v, T.2.getD v 0 * m' * (m : Int) ≤ S.2.getD v 0 * m * (d * m') := fun v => by
          have := Int.mul_le_mul_of_nonneg_right (fle v) (show (0 : Int) ≤ (m' : Int) * (m : Int) from Int.mul_nonneg (by omega) (by omega))
          have e1 : S.2.getD v 0 * d * ((m' : Int) * m) = S.2.getD v 0 * m * (d * m') := by ac_rfl
          rw [← e1, Int.mul_assoc]
          exact this
        refine sumV_lt (v := v) (fun w _ => ?_) hv ?_
        · rw [mm _ _ _ (by omega), mm _ _ _ (by omega), ra]
          have := tle w
          omega
        · rw [mm _ _ _ (by omega), mm _ _ _ (by omega), ra, Int.min_eq_left (a := r * d * m') (by
            have := Int.mul_le_mul_of_nonneg_right hrv (show 0 ≤ d * (m' : Int) by omega)
            rw [ra] at this
            exact this)]
          omega
      rw [sumV_mul, sumV_mul, hs, hs'] at s1
      have e1 : e.cs.getD x 0 * (S.1 * d) * (m' : Int) * m = e.cs.getD x 0 * S.1 * m * (d * m') := by ac_rfl
      omega
    · exact hge
/-- The best of the first k projects. -/
def bestS (cs : List Int) (ap : List (List Int)) (S : Int × List Int) (ord : List Nat) : Nat → Option (Nat × Int × Nat)
  | 0 => none
  | k + 1 => match priceS cs ap S k with
    | none => bestS cs ap S ord k
    | some (r, m) => if k ∈ ord then bestS cs ap S ord k else match bestS cs ap S ord k with
      | none => some (k, r, m)
      | some (b, rb, mb) => if r * mb < rb * m then some (k, r, m) else some (b, rb, mb)
theorem best_none {cs : List Int} {ap : List (List Int)} {S : Int × List Int} {ord : List Nat} : ∀ {k : Nat}, bestS cs ap S ord k = none → ∀ x, x < k → x ∉ ord → priceS cs ap S x = none
  | 0, _, x, hx, _ => by omega
  | k + 1, h, x, hx, hn => by
    unfold bestS at h
    rcases Nat.lt_or_ge x k with hk | hk
    · refine best_none (k := k) ?_ x hk hn
      cases hp : priceS cs ap S k with
      | none => rw [hp] at h; exact h
      | some q =>
        obtain ⟨r, m⟩ := q
        rw [hp] at h
        simp only at h
        split at h
        · exact h
        · cases hb : bestS cs ap S ord k with
          | none => rfl
          | some b =>
            obtain ⟨b, rb, mb⟩ := b
            rw [hb] at h
            simp only at h
            split at h <;> cases h
    · obtain rfl : x = k := by omega
      cases hp : priceS cs ap S x with
      | none => rfl
      | some q =>
        obtain ⟨r, m⟩ := q
        rw [hp] at h
        simp only [hn, if_false] at h
        cases hb : bestS cs ap S ord x with
        | none => rw [hb] at h; cases h
        | some b =>
          obtain ⟨b, rb, mb⟩ := b
          rw [hb] at h
          simp only at h
          split at h <;> cases h
structure BestOk (cs : List Int) (ap : List (List Int)) (S : Int × List Int) (ord : List Nat) (k : Nat) (b : Nat) (r : Int) (m : Nat) : Prop where
  lt : b < k
  new : b ∉ ord
  pr : priceS cs ap S b = some (r, m)
  le : ∀ x, x < k → x ∉ ord → ∀ r' m', priceS cs ap S x = some (r', m') → r * m' ≤ r' * m ∧ (r * m' = r' * m → b ≤ x)
theorem best_some {cs : List Int} {ap : List (List Int)} {S : Int × List Int} {ord : List Nat} (hm : ∀ x r m, x < cs.length → priceS cs ap S x = some (r, m) → 1 ≤ m) : ∀ {k : Nat} {b : Nat} {r : Int} {m : Nat}, k ≤ cs.length → bestS cs ap S ord k = some (b, r, m) → BestOk cs ap S ord k b r m
  | 0, b, r, m, _, h => by cases h
  | k + 1, b, r, m, hk, h => by
    unfold bestS at h
    have keep : priceS cs ap S k = none ∨ k ∈ ord → bestS cs ap S ord k = some (b, r, m) → BestOk cs ap S ord (k + 1) b r m := by
      intro hc hb
      have := best_some hm (show k ≤ cs.length by omega) hb
      refine ⟨by have := this.lt; omega, this.new, this.pr, fun x hx hn r' m' hp => ?_⟩
      rcases Nat.lt_or_ge x k with h1 | h1
      · exact this.le x h1 hn r' m' hp
      · obtain rfl : x = k := by omega
        rcases hc with hc | hc
        · rw [hc] at hp; cases hp
        · exact absurd hc hn
    cases hp : priceS cs ap S k with
    | none => rw [hp] at h; exact keep (.inl hp) h
    | some q =>
      obtain ⟨rk, mk⟩ := q
      rw [hp] at h
      simp only at h
      split at h
      · rename_i hin
        exact keep (.inr hin) h
      · rename_i hin
        cases hb : bestS cs ap S ord k with
        | none =>
          rw [hb] at h
          injection h with h
          injection h with e1 h
          injection h with e2 e3
          subst e1
          subst e2
          subst e3
          refine ⟨by omega, hin, hp, fun x hx hn r' m' hp' => ?_⟩
          rcases Nat.lt_or_ge x k with h1 | h1
          · have := best_none hb x h1 hn
            rw [this] at hp'
            cases hp'
          · obtain rfl : x = k := by omega
            rw [hp] at hp'
            injection hp' with hp'
            injection hp' with e1 e2
            subst e1
            subst e2
            exact ⟨Int.le_refl _, fun _ => Nat.le_refl _⟩
        | some q =>
          obtain ⟨b0, r0, m0⟩ := q
          have B := best_some hm (show k ≤ cs.length by omega) hb
          have mk1 := hm k rk mk (by omega) hp
          have m01 := hm b0 r0 m0 (by have := B.lt; omega) B.pr
          rw [hb] at h
          simp only at h
          split at h
          · rename_i hlt
            injection h with h
            injection h with e1 h
            injection h with e2 e3
            subst e1
            subst e2
            subst e3
            refine ⟨by omega, hin, hp, fun x hx hn r' m' hp' => ?_⟩
            rcases Nat.lt_or_ge x k with h1 | h1
            · have h2 := (B.le x h1 hn r' m' hp').1
              have m'1 := hm x r' m' (by omega) hp'
              -- r * m' < r' * m : from r*m0 < r0*m and r0*m' ≤ r'*m0
              have s1 := Int.mul_lt_mul_of_pos_right hlt (show (0 : Int) < (m' : Int) by omega)
              have s2 := Int.mul_le_mul_of_nonneg_right h2 (show (0 : Int) ≤ (mk : Int) by omega)
              have s3 : rk * (m0 : Int) * m' = (rk * m') * m0 := by ac_rfl
              have s4 : r0 * (mk : Int) * m' = r0 * m' * mk := by ac_rfl
              have s5 : r' * (m0 : Int) * mk = r' * mk * m0 := by ac_rfl
              have s6 : (rk * m') * (m0 : Int) < (r' * mk) * m0 := by omega
              have s7 := Int.lt_of_mul_lt_mul_right s6 (show (0 : Int) ≤ (m0 : Int) by omega)
              exact ⟨by omega, fun e => by omega⟩
            · obtain rfl : x = k := by omega
              rw [hp] at hp'
              injection hp' with hp'
              injection hp' with e1 e2
              subst e1
              subst e2
              exact ⟨Int.le_refl _, fun _ => Nat.le_refl _⟩
          · rename_i hge
            injection h with h
            injection h with e1 h
            injection h with e2 e3
            subst e1
            subst e2
            subst e3
            refine ⟨by have := B.lt; omega, B.new, B.pr, fun x hx hn r' m' hp' => ?_⟩
            rcases Nat.lt_or_ge x k with h1 | h1
            · exact B.le x h1 hn r' m' hp'
            · obtain rfl : x = k := by omega
              rw [hp] at hp'
              injection hp' with hp'
              injection hp' with e1 e2
              subst e1
              subst e2
              exact ⟨by omega, fun _ => by have := B.lt; omega⟩
/-- An order while it grows by equal shares. -/
inductive EqR (e : El) : List Nat → Prop
  | nil : EqR e []
  | snoc {L : List Nat} {S : Int × List Int} {b : Nat} {r : Int} {m : Nat} (h : EqR e L) (hS : bgt e L = some S) (hb : bestS e.cs e.ap S L e.cs.length = some (b, r, m)) : EqR e (L ++ [b])
/-- The whole order of equal shares. -/
def EqFin (e : El) (L : List Nat) : Prop := EqR e L ∧ ∃ S, bgt e L = some S ∧ bestS e.cs e.ap S L e.cs.length = none
end Go.Proofs.Ytiodbjfchfmlcaa
