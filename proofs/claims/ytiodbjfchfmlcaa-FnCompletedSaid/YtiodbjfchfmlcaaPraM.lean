/- FnPriced: what the law asks, mathematics. -/
import Derived.Test.YtiodbjfchfmlcaaEqu
namespace Go.Proofs.Ytiodbjfchfmlcaa
set_option linter.unusedVariables false
set_option linter.unusedSimpArgs false
open Go.RowKit
theorem EqR.at {e : El} {L : List Nat} (h : EqR e L) : ∀ {k : Nat} {x : Nat}, L[k]? = some x → ∃ S r m, bgt e (L.take k) = some S ∧ bestS e.cs e.ap S (L.take k) e.cs.length = some (x, r, m) ∧ EqR e (L.take k) := by
  induction h with
  | nil => intro k x h; simp at h
  | @snoc L S b r m h hS hb ih =>
    intro k x hx
    rcases Nat.lt_or_ge k L.length with hk | hk
    · rw [List.getElem?_append_left hk] at hx
      rw [List.take_append_of_le_length (by omega)]
      exact ih hx
    · have hl := (List.getElem?_eq_some_iff.1 hx).1
      rw [List.length_append] at hl
      simp at hl
      obtain rfl : k = L.length := by omega
      rw [List.getElem?_append_right (Nat.le_refl _), Nat.sub_self] at hx
      simp at hx
      subst hx
      rw [List.take_append_of_le_length (Nat.le_refl _), List.take_length]
      exact ⟨S, r, m, hS, hb, h⟩
/-- The state behind k purchases of an order. -/
structure Step (e : El) (L : List Nat) (k : Nat) (S : Int × List Int) : Prop where
  st : bgt e (L.take k) = some S
  ok : StOk e (L.take k).length (costL e.cs (L.take k)) S
theorem step_at {e : El} (ok : EOk' e) {L : List Nat} (h : EqR e L) : ∀ {k : Nat}, k ≤ L.length → ∃ S, Step e L k S := by
  intro k hk
  have K := h.keep ok
  have hlt : ∀ x ∈ L.take k, x < e.cs.length := fun x hx => K.lt x (List.mem_of_mem_take hx)
  rcases Nat.lt_or_ge k L.length with h1 | h1
  · obtain ⟨S, r, m, hS, _, _⟩ := h.at (List.getElem?_eq_getElem h1)
    exact ⟨S, hS, bgt_ok ok hlt hS⟩
  · obtain ⟨S, hS⟩ := K.st
    have e1 : L.take k = L := List.take_of_length_le (by omega)
    exact ⟨S, by rw [e1]; exact hS, by rw [e1]; exact bgt_ok ok K.lt hS⟩
theorem step_fell {e : El} (ok : EOk' e) {L : List Nat} (h : EqR e L) {k : Nat} {S : Int × List Int} (hS : Step e L k S) : ∀ {j : Nat}, k ≤ j → j ≤ L.length → ∀ {T : Int × List Int}, Step e L j T → ∃ d, Fell S T d := by
  intro j
  induction j with
  | zero =>
    intro h1 _ T hT
    obtain rfl : k = 0 := by omega
    have := hS.st
    rw [hT.st] at this
    injection this with this
    subst this
    exact ⟨1, Fell.refl _⟩
  | succ j ih =>
    intro h1 h2 T hT
    rcases Nat.lt_or_ge j k with h3 | h3
    · obtain rfl : k = j + 1 := by omega
      have := hS.st
      rw [hT.st] at this
      injection this with this
      subst this
      exact ⟨1, Fell.refl _⟩
    · obtain ⟨U, hU⟩ := step_at ok h (show j ≤ L.length by omega)
      obtain ⟨d, hd⟩ := ih h3 (by omega) hU
      have hx := List.getElem?_eq_getElem (show j < L.length by omega)
      have hxl := (h.keep ok).lt _ (List.getElem_mem (show j < L.length by omega))
      have hb := hT.st
      unfold bgt at hb
      rw [List.take_add_one, hx] at hb
      have hs := bgtF_snoc L[j] hU.st
      have hb2 : buyS e.cs e.ap U L[j] = some T := by rw [← hs]; exact hb
      obtain ⟨f, hf⟩ := buy_fell hU.ok ok hxl hb2
      exact ⟨d * f, hd.trans hf⟩
/-- What the law sees at step k. -/
structure PriK (e : El) (L : List Nat) (k x : Nat) (S : Int × List Int) (r : Int) (m : Nat) : Prop where
  st : Step e L k S
  best : BestOk e.cs e.ap S (L.take k) e.cs.length x r m
  d1 : 1 ≤ S.1
  d2 : S.1 ≤ 279936
  m1 : 1 ≤ m
  m6 : m ≤ 6
  r0 : 0 < r
  r1 : r ≤ 60 * S.1
theorem prik {e : El} (ok : EOk' e) {L : List Nat} (h : EqR e L) {k x : Nat} (hx : L[k]? = some x) : ∃ S r m, PriK e L k x S r m := by
  obtain ⟨S, r, m, hS, hb, hr⟩ := h.at hx
  have K := hr.keep ok
  have B := best_ok ok K.lt hS (Nat.le_refl _) hb
  have st := bgt_ok ok K.lt hS
  have P := price_some st ok B.lt B.pr
  have hl := (K.len ok).2
  exact ⟨S, r, m, ⟨hS, st⟩, B, st.d1, Int.le_trans st.d2 (six7 hl), P.1, P.2.1, P.2.2.1, P.2.2.2.1⟩
/-- The price that PriceAfter tells. -/
def paO (e : El) (L : List Nat) (k : Nat) (S : Int × List Int) (p : Nat) : Option (Int × Nat) := if p ∈ L.take k then none else priceS e.cs e.ap S p
theorem take_drop_ne {L : List Nat} (hn : L.Nodup) {k p : Nat} (h1 : p ∈ L.take k) : p ∉ L.drop k := by
  intro h2
  have := hn
  rw [← List.take_append_drop k L, List.nodup_append] at this
  exact this.2.2 p h1 p h2 rfl
theorem prik_none {e : El} (ok : EOk' e) {L : List Nat} (h : EqR e L) {k x : Nat} {S : Int × List Int} {r : Int} {m : Nat} (hk : k ≤ L.length) (hp : PriK e L k x S r m) {p : Nat} (hpm : p < e.cs.length) (hn : paO e L k S p = none) : p ∉ L.drop k := by
  have K := h.keep ok
  unfold paO at hn
  split at hn
  · rename_i hin
    exact take_drop_ne K.nd hin
  · intro hm
    obtain ⟨j, hj⟩ := List.mem_iff_getElem?.1 hm
    rw [List.getElem?_drop] at hj
    obtain ⟨T, r', m', P⟩ := prik ok h hj
    have hjl := (List.getElem?_eq_some_iff.1 hj).1
    obtain ⟨d, hd⟩ := step_fell ok h hp.st (Nat.le_add_right k j) (by omega) P.st
    obtain ⟨r0, m0, h0, _⟩ := price_later hp.st.ok P.st.ok ok hd hpm P.best.pr
    rw [h0] at hn
    cases hn
theorem prik_some {e : El} {L : List Nat} {k x : Nat} {S : Int × List Int} {r : Int} {m : Nat} (hp : PriK e L k x S r m) {p : Nat} (hpm : p < e.cs.length) {r' : Int} {m' : Nat} (hs : paO e L k S p = some (r', m')) : r * m' ≤ r' * m ∧ (r * m' = r' * m → x ≤ p) ∧ priceS e.cs e.ap S p = some (r', m') := by
  unfold paO at hs
  split at hs
  · cases hs
  · rename_i hn
    have := hp.best.le p hpm hn r' m' hs
    exact ⟨this.1, this.2, hs⟩
/-- Prices never fall. -/
theorem prik_next {e : El} (ok : EOk' e) {L : List Nat} (h : EqR e L) {k x y : Nat} {S T : Int × List Int} {r r' : Int} {m m' : Nat} (hx : L[k]? = some x) (hy : L[k + 1]? = some y) (hp : PriK e L k x S r m) (hq : PriK e L (k + 1) y T r' m') : r * (T.1 * m') ≤ r' * (S.1 * m) := by
  have K := h.keep ok
  have hl := (List.getElem?_eq_some_iff.1 hy).1
  obtain ⟨d, hd⟩ := step_fell ok h hp.st (Nat.le_succ k) (by omega) hq.st
  have hyl := hq.best.lt
  obtain ⟨r0, m0, h0, h1⟩ := price_later hp.st.ok hq.st.ok ok hd hyl hq.best.pr
  have hyn : y ∉ L.take k := fun hm => take_drop_ne K.nd hm (by
    refine List.mem_iff_getElem?.2 ⟨1, ?_⟩
    rw [List.getElem?_drop]
    exact hy)
  have h2 := (hp.best.le y hyl hyn r0 m0 h0).1
  have p0 := price_some hp.st.ok ok hyl h0
  have d1 := hd.c1
  have s1 := hp.d1
  have m1 := hp.m1
  have n1 := hq.m1
  -- r * m0 ≤ r0 * m, r0 * d * m' ≤ r' * m0
  have a1 := Int.mul_le_mul_of_nonneg_right h2 (show 0 ≤ d * (m' : Int) from Int.mul_nonneg (by omega) (by omega))
  have a2 := Int.mul_le_mul_of_nonneg_right h1 (show 0 ≤ (m : Int) by omega)
  have e1 : r * (m0 : Int) * (d * m') = (r * (d * m')) * m0 := by ac_rfl
  have e2 : r0 * (m : Int) * (d * m') = r0 * d * m' * m := by ac_rfl
  have e3 : r' * (m0 : Int) * m = (r' * m) * m0 := by ac_rfl
  have a3 : (r * (d * (m' : Int))) * m0 ≤ (r' * m) * m0 := by omega
  have a4 := Int.le_of_mul_le_mul_right a3 (show (0 : Int) < (m0 : Int) by have := p0.1; omega)
  have a5 := Int.mul_le_mul_of_nonneg_right a4 (show 0 ≤ S.1 by omega)
  rw [hd.d]
  have e4 : r * (S.1 * d * (m' : Int)) = r * (d * m') * S.1 := by ac_rfl
  have e5 : r' * (S.1 * (m : Int)) = r' * m * S.1 := by ac_rfl
  omega
/-- At the end nothing is affordable. -/
theorem eq_end {e : El} (ok : EOk' e) {L : List Nat} (h : EqFin e L) {S : Int × List Int} (hS : Step e L L.length S) {p : Nat} (hp : p < e.cs.length) : paO e L L.length S p = none := by
  obtain ⟨hr, T, hT, hb⟩ := h
  have := hS.st
  rw [List.take_length, hT] at this
  injection this with this
  subst this
  unfold paO
  rw [List.take_length]
  split
  · rfl
  · rename_i hn
    exact best_none hb p hp hn
end Go.Proofs.Ytiodbjfchfmlcaa
