/- FnTimely: what the law asks, mathematics. -/
import Derived.Test.YtiodbjfchfmlcaaPhr
namespace Go.Proofs.Ytiodbjfchfmlcaa
set_option linter.unusedVariables false
set_option linter.unusedSimpArgs false
open Go.RowKit
theorem PhOk.tail {cs : List Int} {ap : List (List Int)} {D : Int} {p : Nat × Int} {R : List (Nat × Int)} (h : PhOk cs ap D (p :: R)) : PhOk cs ap D R := by
  cases h with
  | cons hx hs ht hl h => exact h
theorem phok_drop {cs : List Int} {ap : List (List Int)} {D : Int} : ∀ (j : Nat) {R : List (Nat × Int)}, PhOk cs ap D R → PhOk cs ap D (R.drop j)
  | 0, R, h => by simpa using h
  | j + 1, [], h => by simpa using h
  | j + 1, p :: R, h => by
    rw [List.drop_succ_cons]
    exact phok_drop j h.tail
/-- The purchases of the first k steps, the last one first. -/
def rk (R : List (Nat × Int)) (k : Nat) : List (Nat × Int) := R.drop (R.length - k)
theorem rk_zero (R : List (Nat × Int)) : rk R 0 = [] := by unfold rk; simp
theorem rk_all (R : List (Nat × Int)) : rk R R.length = R := by unfold rk; simp
theorem rk_step {R : List (Nat × Int)} {k : Nat} (hk : k < R.length) : ∃ x t, rk R (k + 1) = (x, t) :: rk R k ∧ (R.reverse.map Prod.fst)[k]? = some x ∧ (R.reverse.map Prod.snd)[k]? = some t := by
  have hj : R.length - (k + 1) < R.length := by omega
  refine ⟨(R[R.length - (k + 1)]).1, (R[R.length - (k + 1)]).2, ?_, ?_, ?_⟩
  · unfold rk
    rw [List.drop_eq_getElem_cons hj, show R.length - (k + 1) + 1 = R.length - k by omega]
  · rw [List.getElem?_map, List.getElem?_reverse hk, show R.length - 1 - k = R.length - (k + 1) by omega, List.getElem?_eq_getElem hj]
    rfl
  · rw [List.getElem?_map, List.getElem?_reverse hk, show R.length - 1 - k = R.length - (k + 1) by omega, List.getElem?_eq_getElem hj]
    rfl
theorem rk_last {R : List (Nat × Int)} {k : Nat} (h0 : 0 < k) (hk : k ≤ R.length) : (R.reverse.map Prod.snd)[k - 1]? = some (lastT (rk R k)) := by
  obtain ⟨x, t, h1, _, h3⟩ := rk_step (R := R) (k := k - 1) (by omega)
  rw [show k - 1 + 1 = k by omega] at h1
  rw [h3, h1]
  rfl
theorem rk_ok {cs : List Int} {ap : List (List Int)} {D : Int} {R : List (Nat × Int)} (h : PhOk cs ap D R) (k : Nat) : PhOk cs ap D (rk R k) := phok_drop _ h
theorem rk_len {R : List (Nat × Int)} {k : Nat} (hk : k ≤ R.length) : (rk R k).length = k := by unfold rk; rw [List.length_drop]; omega
/-- What a supporter has earned, summed. -/
def ernS (ap : List (List Int)) (R : List (Nat × Int)) (t : Int) (l : List Nat) : Int := sumV (fun v => t - snc ap R v) l
theorem ernS_eq (ap : List (List Int)) (R : List (Nat × Int)) (t : Int) (l : List Nat) : ernS ap R t l = t * l.length - sumV (snc ap R) l := by
  unfold ernS
  induction l with
  | nil => simp [sumV]
  | cons a l ih => rw [sumV_cons, sumV_cons, ih, List.length_cons]; push_cast; rw [Int.mul_add]; omega
structure TimS (e : El) (D : Int) (R : List (Nat × Int)) (x : Nat) (t : Int) : Prop where
  hx : x < e.cs.length
  sz : 0 < sz e.ap x
  all : ernS e.ap R t (supN e.ap (x : Int) e.ap.length) = e.cs.getD x 0 * D
  last : lastT R ≤ t
  t0 : 0 ≤ t
  t1 : t ≤ 360 * D
  s0 : ∀ v, 0 ≤ snc e.ap R v ∧ snc e.ap R v ≤ t
  l0 : 0 ≤ lastT R
theorem tim_step {e : El} (ok : EOk e) {D : Int} {R0 : List (Nat × Int)} {k : Nat} {x : Nat} {t : Int} (hD : 1 ≤ D) (h : PhOk e.cs e.ap D R0) (h6 : R0.length ≤ 6) (hk : k < R0.length) (e1 : rk R0 (k + 1) = (x, t) :: rk R0 k) : TimS e D (rk R0 k) x t := by
  have h1 := rk_ok h (k + 1)
  have hb := h1.bound hD ok.cost
  have hl := rk_len (R := R0) (k := k + 1) (by omega)
  have sn := (rk_ok h k).snc
  have ln := (rk_ok h k).last
  rw [hl, e1] at hb
  rw [e1] at h1
  cases h1 with
  | cons hx hs ht hlt _ =>
  have hbb : t ≤ 60 * ((k + 1 : Nat) : Int) * D := hb
  have : 60 * ((k + 1 : Nat) : Int) * D ≤ 360 * D := Int.mul_le_mul_of_nonneg_right (by omega) (by omega)
  refine ⟨hx, hs, ?_, hlt, by omega, by omega, fun v => ⟨(sn v).1, by have := (sn v).2; omega⟩, ln⟩
  rw [ernS_eq]
  unfold Ytiodbjfchfmlcaa.sz at ht
  rw [ht]
  unfold atN
  omega
theorem TimS.part {e : El} {D : Int} {R : List (Nat × Int)} {x : Nat} {t : Int} (h : TimS e D R x t) (l : List Nat) (hl : l.length ≤ 6) : 0 ≤ ernS e.ap R t l ∧ ernS e.ap R t l ≤ 2160 * D := by
  have := sumV_bd (f := fun v => t - snc e.ap R v) (b := t) l (fun v => by have := h.s0 v; omega)
  have t0 := h.t0
  have t1 := h.t1
  have := Int.mul_le_mul_of_nonneg_left (show (l.length : Int) ≤ 6 by omega) t0
  unfold ernS
  omega
theorem ernS_snoc {ap : List (List Int)} {R : List (Nat × Int)} {t : Int} {l : List Nat} {i v : Nat} (h : l[i]? = some v) : ernS ap R t (l.take (i + 1)) = ernS ap R t (l.take i) + (t - snc ap R v) := by
  unfold ernS
  rw [List.take_add_one, h]
  exact sumV_snoc _ _ _
theorem slI_at {ap : List (List Int)} {n : Nat} {R : List (Nat × Int)} {t : Int} {l : List Nat} {i v : Nat} (hn : l.Nodup) (h : l[i]? = some v) (hv : v < n) : (slI ap n R t (l.take i))[v]? = some (snc ap R v) := by
  unfold slI
  have hm : v ∉ l.take i := by
    intro hm
    obtain ⟨j, hj⟩ := List.mem_iff_getElem?.1 hm
    have hji : j < i := by
      have := (List.getElem?_eq_some_iff.1 hj).1
      rw [List.length_take] at this
      omega
    rw [List.getElem?_take_of_lt hji] at hj
    have h1 := (List.getElem?_eq_some_iff.1 hj).1
    have h2 := (List.getElem?_eq_some_iff.1 h).1
    have a := (List.getElem?_eq_some_iff.1 hj).2
    have b := (List.getElem?_eq_some_iff.1 h).2
    exact (List.pairwise_iff_getElem.1 hn) j i h1 h2 hji (by rw [a, b])
  simp [hv, hm]
theorem costR_step {cs : List Int} {R : List (Nat × Int)} {k x : Nat} {t : Int} (e1 : rk R (k + 1) = (x, t) :: rk R k) : costR cs (rk R (k + 1)) = cs.getD x 0 + costR cs (rk R k) := by
  rw [e1]
  simp [costR]
theorem costR_nonneg {e : El} (ok : EOk e) (l : List (Nat × Int)) : 0 ≤ costR e.cs l := by
  unfold costR
  induction l with
  | nil => simp
  | cons p l ih =>
    rw [List.map_cons, List.sum_cons]
    have : 0 ≤ e.cs.getD p.1 0 := by
      rw [List.getD_eq_getElem?_getD]
      by_cases hp : p.1 < e.cs.length
      · rw [List.getElem?_eq_getElem hp]
        have := ok.cost _ (List.getElem_mem hp)
        simp
        omega
      · rw [List.getElem?_eq_none (by omega)]
        simp
    omega
theorem costR_bd {e : El} (ok : EOk e) : ∀ (l : List (Nat × Int)), costR e.cs l ≤ 60 * l.length
  | [] => by simp [costR]
  | p :: l => by
    have := costR_bd ok l
    unfold costR at this ⊢
    rw [List.map_cons, List.sum_cons, List.length_cons]
    have : e.cs.getD p.1 0 ≤ 60 := by
      rw [List.getD_eq_getElem?_getD]
      by_cases hp : p.1 < e.cs.length
      · rw [List.getElem?_eq_getElem hp]
        have := ok.cost _ (List.getElem_mem hp)
        simp
        omega
      · rw [List.getElem?_eq_none (by omega)]
        simp
    push_cast
    omega
theorem frs0 (D : Int) (h : 1 ≤ D) : redN 0 D = 0 ∧ redD 0 D = 1 := by
  have := red_whole 0 h
  rwa [Int.zero_mul] at this
theorem va_D {t D : Int} (h0 : 0 ≤ t) (h1 : t ≤ 2160 * D) (d1 : 1 ≤ D) (d2 : D ≤ 46656) : Va t D := ⟨d1, by omega, by omega, by omega⟩
end Go.Proofs.Ytiodbjfchfmlcaa
