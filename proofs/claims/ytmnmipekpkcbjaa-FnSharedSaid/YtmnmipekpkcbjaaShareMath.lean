/- The plain law of sharing out: floors, the rests in falling order, one more for the first ones. No program. -/
import Derived.Test.YtmnmipekpkcbjaaSrc
namespace Go.Proofs.Ytmnmipekpkcbjaa
set_option linter.unusedVariables false
open Go.RowKit
def flr (t s w : Int) : Int := (t * w).tdiv s
def rmd (t s w : Int) : Int := (t * w).tmod s
theorem flr_ok {t s w : Int} (ht : 0 ≤ t) (hs : 0 < s) (hw : 0 ≤ w) : t * w = flr t s w * s + rmd t s w ∧ 0 ≤ rmd t s w ∧ rmd t s w < s ∧ 0 ≤ flr t s w := by
  have hm : 0 ≤ t * w := Int.mul_nonneg ht hw
  unfold flr rmd
  rw [Int.tdiv_eq_ediv_of_nonneg hm, Int.tmod_eq_emod_of_nonneg hm]
  have h1 := Int.emod_add_mul_ediv (t * w) s
  have h2 := Int.emod_nonneg (t * w) (show s ≠ 0 by omega)
  have h3 := Int.emod_lt_of_pos (t * w) hs
  have h4 := Int.ediv_nonneg hm (show 0 ≤ s by omega)
  rw [Int.mul_comm s] at h1
  exact ⟨by omega, h2, h3, h4⟩
theorem sums_ok {t s : Int} (ht : 0 ≤ t) (hs : 0 < s) : ∀ ws : List Int, (∀ w ∈ ws, 0 ≤ w) → t * ws.sum = (ws.map (flr t s)).sum * s + (ws.map (rmd t s)).sum ∧ 0 ≤ (ws.map (rmd t s)).sum ∧ (ws.map (rmd t s)).sum ≤ ws.length * s ∧ 0 ≤ (ws.map (flr t s)).sum := by
  intro ws
  induction ws with
  | nil => intro _; simp
  | cons w ws ih =>
    intro h
    obtain ⟨i1, i2, i3, i4⟩ := ih (fun z hz => h z (List.mem_cons_of_mem _ hz))
    obtain ⟨f1, f2, f3, f4⟩ := flr_ok ht hs (h w (List.mem_cons_self ..))
    simp only [List.map_cons, List.sum_cons, List.length_cons]
    refine ⟨?_, by omega, ?_, by omega⟩
    · rw [Int.mul_add, f1, i1, Int.add_mul]; omega
    · rw [Int.natCast_add, Int.add_mul]; omega
theorem left_ok {t s : Int} {ws : List Int} (ht : 0 ≤ t) (hs : 0 < s) (hw : ∀ w ∈ ws, 0 ≤ w) (he : ws.sum = s) : 0 ≤ t - (ws.map (flr t s)).sum ∧ t - (ws.map (flr t s)).sum ≤ ws.length ∧ t - (ws.map (flr t s)).sum ≤ t := by
  obtain ⟨i1, i2, i3, i4⟩ := sums_ok ht hs ws hw
  rw [he] at i1
  have e : (t - (ws.map (flr t s)).sum) * s = (ws.map (rmd t s)).sum := by rw [Int.sub_mul]; omega
  refine ⟨?_, ?_, by omega⟩
  · refine Int.not_lt.1 fun h => ?_
    have := Int.mul_le_mul_of_nonneg_right (show t - (ws.map (flr t s)).sum ≤ -1 by omega) (show 0 ≤ s by omega)
    omega
  · exact Int.le_of_mul_le_mul_right (by rw [e]; exact i3) hs

/-! ### sorting by insertion -/
def SortP (f : Int → Int) (xs : List Int) (i : Nat) : Prop := ∀ (p q : Nat) (x y : Int), p < q → q < i → xs[p]? = some x → xs[q]? = some y → f y ≤ f x
def InsP (f : Int → Int) (xs : List Int) (i j : Nat) : Prop := ∀ (p q : Nat) (x y : Int), p < q → q ≤ i → q ≠ j → xs[p]? = some x → xs[q]? = some y → f y ≤ f x
theorem SortP.ins {f : Int → Int} {xs : List Int} {i : Nat} (h : SortP f xs i) : InsP f xs i i := fun p q x y h1 h2 h3 hx hy => h p q x y h1 (by omega) hx hy
theorem InsP.down {f : Int → Int} {xs : List Int} {i j : Nat} {u v : Int} (h : InsP f xs i (j + 1)) (hj : j + 1 ≤ i) (hu : xs[j + 1]? = some u) (hv : xs[j]? = some v) (hf : f v < f u) :
    InsP f ((xs.set (j + 1) v).set j u) i j := by
  have l1 := (List.getElem?_eq_some_iff.1 hu).1
  have gj : ((xs.set (j + 1) v).set j u)[j]? = some u := by rw [List.getElem?_set_self (by simp; omega)]
  have gj1 : ((xs.set (j + 1) v).set j u)[j + 1]? = some v := by rw [List.getElem?_set_ne (by omega), List.getElem?_set_self l1]
  have go : ∀ k, k ≠ j → k ≠ j + 1 → ((xs.set (j + 1) v).set j u)[k]? = xs[k]? := fun k h1 h2 => by rw [List.getElem?_set_ne (by omega), List.getElem?_set_ne (by omega)]
  intro p q x y hpq hq hqj hx hy
  by_cases q1 : q = j + 1
  · subst q1
    rw [gj1] at hy
    obtain rfl : v = y := by simpa using hy
    by_cases p1 : p = j
    · subst p1
      rw [gj] at hx
      obtain rfl : u = x := by simpa using hx
      omega
    · rw [go p p1 (by omega)] at hx
      exact h p j x v (by omega) (by omega) (by omega) hx hv
  · rw [go q hqj q1] at hy
    by_cases p1 : p = j
    · subst p1
      rw [gj] at hx
      obtain rfl : u = x := by simpa using hx
      exact h (p + 1) q u y (by omega) hq (by omega) hu hy
    · by_cases p2 : p = j + 1
      · subst p2
        rw [gj1] at hx
        obtain rfl : v = x := by simpa using hx
        exact h j q v y (by omega) hq q1 hv hy
      · rw [go p p1 p2] at hx
        exact h p q x y hpq hq q1 hx hy
theorem InsP.stop {f : Int → Int} {xs : List Int} {i j : Nat} {u v : Int} (h : InsP f xs i (j + 1)) (hj : j + 1 ≤ i) (hu : xs[j + 1]? = some u) (hv : xs[j]? = some v) (hf : ¬ f v < f u) : SortP f xs (i + 1) := by
  intro p q x y hpq hq hx hy
  by_cases q1 : q = j + 1
  · subst q1
    rw [hu] at hy
    obtain rfl : u = y := by simpa using hy
    by_cases p1 : p = j
    · subst p1
      rw [hv] at hx
      obtain rfl : v = x := by simpa using hx
      omega
    · have := h p j x v (by omega) (by omega) (by omega) hx hv
      omega
  · exact h p q x y hpq (by omega) q1 hx hy
theorem InsP.first {f : Int → Int} {xs : List Int} {i : Nat} (h : InsP f xs i 0) : SortP f xs (i + 1) := fun p q x y h1 h2 hx hy => h p q x y h1 (by omega) (by omega) hx hy
theorem swap_perm {xs : List Int} {i j : Nat} {u v : Int} (hu : xs[i]? = some u) (hv : xs[j]? = some v) : ((xs.set i v).set j u).Perm xs := by
  obtain ⟨h1, rfl⟩ := List.getElem?_eq_some_iff.1 hu
  obtain ⟨h2, rfl⟩ := List.getElem?_eq_some_iff.1 hv
  exact List.set_set_perm h1 h2

/-! ### one more for the first ones -/
structure BumpP (L os : List Int) (k : Nat) (out : List Int) : Prop where
  len : out.length = L.length
  at_ : ∀ (p : Nat) (x : Int), L[p]? = some x → out[p]? = some (if (p : Int) ∈ os.take k then x + 1 else x)
  sum : out.sum = L.sum + k
theorem BumpP.start (L os : List Int) : BumpP L os 0 L := ⟨rfl, fun p x h => by simpa using h, by simp⟩
theorem sum_set {xs : List Int} : ∀ {z : Nat} {y : Int}, xs[z]? = some y → (xs.set z (y + 1)).sum = xs.sum + 1 := by
  induction xs with
  | nil => intro z y h; simp at h
  | cons x xs ih =>
    intro z y h
    cases z with
    | zero => simp at h; subst h; simp; omega
    | succ z =>
      simp at h
      rw [List.set_cons_succ, List.sum_cons, List.sum_cons, ih h]; omega
theorem BumpP.next {L os out : List Int} {k z : Nat} {y : Int} (h : BumpP L os k out) (hn : os.Nodup) (hz : os[k]? = some (z : Int)) (hy : out[z]? = some y) : BumpP L os (k + 1) (out.set z (y + 1)) := by
  have hnot : (z : Int) ∉ os.take k := by
    intro hm
    obtain ⟨a, ha, e⟩ := List.getElem_of_mem hm
    have ha' : a < k := by simp at ha; omega
    have e2 : os[a]? = some (z : Int) := by rw [← e]; simp
    obtain ⟨h1, e3⟩ := List.getElem?_eq_some_iff.1 e2
    obtain ⟨h2, e4⟩ := List.getElem?_eq_some_iff.1 hz
    have := (List.getElem_inj (i := a) (j := k) (h₀ := h1) (h₁ := h2) hn).1 (by rw [e3, e4])
    omega
  refine ⟨by simp [h.len], fun p x hp => ?_, by rw [sum_set hy, h.sum, Int.natCast_add]; omega⟩
  have hl := (List.getElem?_eq_some_iff.1 hy).1
  have hb := h.at_ p x hp
  rw [take_snoc' hz]
  by_cases e : p = z
  · subst e
    rw [List.getElem?_set_self hl]
    rw [if_neg hnot] at hb
    rw [hy] at hb
    obtain rfl : y = x := by simpa using hb
    simp
  · rw [List.getElem?_set_ne (by omega), hb]
    congr 1
    have : ((p : Int) ∈ os.take k ++ [(z : Int)]) ↔ (p : Int) ∈ os.take k := by
      simp only [List.mem_append, List.mem_singleton]
      constructor
      · rintro (h | h)
        · exact h
        · omega
      · exact .inl
    simp only [this]
/-- What the parts are. -/
structure ShareP (t s : Int) (ws out : List Int) : Prop where
  len : out.length = ws.length
  part : ∀ (p : Nat) (w : Int), ws[p]? = some w → ∃ x, out[p]? = some x ∧ (x = flr t s w ∨ x = flr t s w + 1)
  fair : ∀ (p q : Nat) (w v x y : Int), ws[p]? = some w → ws[q]? = some v → out[p]? = some x → out[q]? = some y → v < w → y ≤ x
  sum : out.sum = t
theorem share_ok {t s : Int} {ws os out : List Int} {l : Nat} (ht : 0 ≤ t) (hs : 0 < s) (hw : ∀ w ∈ ws, 0 ≤ w) (he : ws.sum = s) (hl : t - (ws.map (flr t s)).sum = l)
    (hp : os.Perm (iota 0 ws.length)) (ho : SortP (fun i => rmd t s (ws.getD i.toNat 0)) os ws.length) (hb : BumpP (ws.map (flr t s)) os l out) : ShareP t s ws out := by
  have hat : ∀ (p : Nat) (w : Int), ws[p]? = some w → out[p]? = some (if (p : Int) ∈ os.take l then flr t s w + 1 else flr t s w) := fun p w h => hb.at_ p _ (by simp [h])
  refine ⟨by simpa using hb.len, fun p w h => ⟨_, hat p w h, ?_⟩, fun p q w v x y h1 h2 h3 h4 hvw => ?_, by rw [hb.sum]; omega⟩
  · split
    · exact .inr rfl
    · exact .inl rfl
  rw [hat p w h1] at h3
  rw [hat q v h2] at h4
  simp only [Option.some.injEq] at h3 h4
  obtain ⟨f1, f2, f3, f4⟩ := flr_ok ht hs (hw w (mem_of_at h1))
  obtain ⟨g1, g2, g3, g4⟩ := flr_ok ht hs (hw v (mem_of_at h2))
  have hm : t * v ≤ t * w := Int.mul_le_mul_of_nonneg_left (by omega) ht
  have hle : flr t s v ≤ flr t s w := by
    refine Int.not_lt.1 fun h => ?_
    have := Int.mul_le_mul_of_nonneg_right (show flr t s w + 1 ≤ flr t s v by omega) (show 0 ≤ s by omega)
    rw [Int.add_mul] at this
    omega
  rcases Int.lt_or_eq_of_le hle with hlt | heq
  · split at h3 <;> split at h4 <;> omega
  · split at h4
    · split at h3
      · omega
      · rename_i hq hpn
        exfalso
        obtain ⟨a, ha, ea⟩ := List.getElem_of_mem hq
        have ha' : a < l ∧ a < os.length := by simp at ha; omega
        have ea2 : os[a]? = some (q : Int) := by rw [← ea]; simp
        have hpm : (p : Int) ∈ os := hp.mem_iff.2 (List.mem_of_getElem? (i := p) (by rw [iota_at (List.getElem?_eq_some_iff.1 h1).1]; simp))
        obtain ⟨b, hb2, eb⟩ := List.getElem_of_mem hpm
        have hbl : l ≤ b := by
          refine Nat.not_lt.1 fun h => hpn ?_
          rw [← eb]
          exact List.mem_of_getElem? (i := b) (by rw [List.getElem?_take, if_pos h]; exact List.getElem?_eq_getElem hb2)
        have hlen : os.length = ws.length := by rw [hp.length_eq, iota_length]
        have := ho a b q p (by omega) (by omega) ea2 (by rw [← eb]; exact List.getElem?_eq_getElem hb2)
        simp only [Int.toNat_natCast, List.getD_eq_getElem?_getD, h1, h2, Option.getD_some] at this
        have e3 : t * w = t * v := by rw [f1, g1, heq]; rw [f1, g1, heq] at hm; omega
        have t0 : t = 0 := by
          rcases Int.lt_or_eq_of_le ht with h | h
          · have := Int.eq_of_mul_eq_mul_left (show t ≠ 0 by omega) e3
            omega
          · exact h.symm
        have := (left_ok ht hs hw he).2.2
        omega
    · split at h3 <;> omega
end Go.Proofs.Ytmnmipekpkcbjaa
