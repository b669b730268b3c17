/- The plain law on audits: the order is one of all ballots, there is a sample, and a ballot more that differs makes the risk no greater. No program. -/
import Derived.Test.YtfanjnoaifhnnaaRunLaw
import Derived.Test.YtfanjnoaifhnnaaMargMath
namespace Go.Proofs.Ytfanjnoaifhnnaa
set_option linter.unusedVariables false
open Go.RowKit
theorem swapL_has {xs : List Int} {i j : Nat} {x : Int} (hi : i < xs.length) (hj : j < xs.length) (h : x ∈ xs) : x ∈ swapL xs i j := by
  have ei : xs[i]? = some xs[i] := List.getElem?_eq_getElem hi
  have ej : xs[j]? = some xs[j] := List.getElem?_eq_getElem hj
  rw [swapL_at ei ej]
  obtain ⟨t, ht, rfl⟩ := List.getElem_of_mem h
  have et : xs[t]? = some xs[t] := List.getElem?_eq_getElem ht
  by_cases h1 : t = i
  · subst h1
    exact List.mem_of_getElem? (i := j) (by rw [List.getElem?_set_self (by simpa using hj)])
  · by_cases h2 : t = j
    · subst h2
      refine List.mem_of_getElem? (i := i) ?_
      rw [List.getElem?_set_ne (by omega), List.getElem?_set_self hi]
    · refine List.mem_of_getElem? (i := t) ?_
      rw [List.getElem?_set_ne (by omega), List.getElem?_set_ne (by omega)]
      exact et
theorem shuf_has : ∀ (i : Nat) (s : Int) (xs : List Int), i < xs.length → 0 ≤ s → ∀ x ∈ xs, x ∈ shuf i s xs := by
  intro i
  induction i with
  | zero => intro s xs _ _ x hx; simpa [shuf] using hx
  | succ i ih =>
    intro s xs hi hs x hx
    have hn := nextS_bd s
    have r0 : 0 ≤ nextS s % ((i + 1 : Nat) + 1 : Int) := Int.emod_nonneg _ (by omega)
    have r1 : nextS s % ((i + 1 : Nat) + 1 : Int) < ((i + 1 : Nat) + 1 : Int) := Int.emod_lt_of_pos _ (by omega)
    rw [shuf_step (by omega), Nat.add_sub_cancel]
    exact ih _ _ (by rw [swapL_length]; omega) hn.1 x (swapL_has hi (by omega) hx)
theorem auditL_has {key : Int} {n k : Nat} (hk : 0 ≤ key) (h : k < n) : (k : Int) ∈ auditL key n := by
  unfold auditL
  refine shuf_has _ _ _ (by rw [iota_length]; omega) hk _ ?_
  exact List.mem_of_getElem? (i := k) (by rw [iota_at (by simpa using h)]; simp)
theorem sampF_hits (b x ln ld : Int) : ∀ (m : Nat) (k : Int), 0 ≤ sampF b x ln ld m k → 0 ≤ k → cmpF (riskN b x (sampF b x ln ld m k)) (riskD b x (sampF b x ln ld m k)) ln ld ≤ 0 := by
  intro m
  induction m with
  | zero => intro k h _; simp [sampF] at h
  | succ m ih =>
    intro k h h0
    unfold sampF at h ⊢
    split
    · assumption
    · rename_i hc
      rw [if_neg hc] at h
      exact ih (k + 1) h (by omega)
theorem sampF_found (b x ln ld : Int) : ∀ (m : Nat) (k k0 : Int), 0 ≤ k → k ≤ k0 → k0 < k + m → cmpF (riskN b x k0) (riskD b x k0) ln ld ≤ 0 → 0 ≤ sampF b x ln ld m k := by
  intro m
  induction m with
  | zero => intro k k0 h0 h1 h2 _; omega
  | succ m ih =>
    intro k k0 h0 h1 h2 hc
    unfold sampF
    split
    · exact h0
    · rename_i hn
      refine ih (k + 1) k0 (by omega) ?_ (by omega) hc
      rcases Int.lt_or_eq_of_le h1 with h | h
      · omega
      · subst h; exact absurd hc hn
theorem samp_exists {n mg ld : Int} (hn : 0 ≤ n) (hn2 : n ≤ 30) (h1 : 1 ≤ mg) (h2 : mg ≤ n) (hl : 0 < ld) : 0 ≤ sampI n mg 1 ld := by
  have hb := risk_bd hn hn2 (show 0 ≤ mg by omega) h2 hn (Int.le_refl n)
  have ok := okF_true (risk_ok hn hn2 (show 0 ≤ mg by omega) h2 hn (Int.le_refl n))
  have hz : riskN n mg n = 0 := by
    unfold riskN
    rw [chsI_small (by omega) (by omega)]
    simp [redN]
  unfold sampI
  refine sampF_found n mg 1 ld _ 0 n (Int.le_refl 0) hn (by omega) ?_
  rw [hz]
  unfold cmpF
  rw [if_pos (by omega)]
  decide
/-- One more ballot that differs makes the risk no greater: looked up for few ballots. -/
def monoOk (n x y s : Nat) : Bool := decide (riskN n y s * riskD n x s ≤ riskN n x s * riskD n y s)
theorem monoOk_all : ∀ n, n < 9 → ∀ x, x < n + 1 → ∀ y, y < n + 1 → ∀ s, s < n + 1 → (x ≤ y → monoOk n x y s = true) := by decide +kernel
theorem risk_mono {n x y s : Nat} (hn : n ≤ 8) (hx : x ≤ y) (hy : y ≤ n) (hs : s ≤ n) {ln ld : Int} (hl : 0 ≤ ld) (hc : cmpF (riskN n x s) (riskD n x s) ln ld ≤ 0) : cmpF (riskN n y s) (riskD n y s) ln ld ≤ 0 := by
  have hm := of_decide_eq_true (monoOk_all n (by omega) x (by omega) y (by omega) s (by omega) hx)
  have d1 := (okF_true (risk_ok (b := n) (x := x) (s := s) (by omega) (by omega) (by omega) (by omega) (by omega) (by omega))).1
  have d2 := (okF_true (risk_ok (b := n) (x := y) (s := s) (by omega) (by omega) (by omega) (by omega) (by omega) (by omega))).1
  have h1 : riskN n x s * ld ≤ ln * riskD n x s := by
    unfold cmpF at hc
    split at hc
    · omega
    · split at hc
      · omega
      · omega
  have h2 : riskN n y s * ld ≤ ln * riskD n y s := by
    have d1' : 0 < riskD n x s := by omega
    have hh : riskN n y s * ld * riskD n x s ≤ ln * riskD n y s * riskD n x s := by
      have e1 : riskN n y s * ld * riskD n x s = (riskN n y s * riskD n x s) * ld := by rw [Int.mul_right_comm]
      have e2 : ln * riskD n y s * riskD n x s = (ln * riskD n x s) * riskD n y s := by rw [Int.mul_right_comm]
      have e3 : (riskN n x s * riskD n y s) * ld = (riskN n x s * ld) * riskD n y s := by rw [Int.mul_right_comm]
      rw [e1, e2]
      refine Int.le_trans (Int.mul_le_mul_of_nonneg_right hm hl) ?_
      rw [e3]
      exact Int.mul_le_mul_of_nonneg_right h1 (by omega)
    exact Int.le_of_mul_le_mul_right hh d1'
  unfold cmpF
  split
  · decide
  · split
    · omega
    · decide
theorem bad_same (rep : List Int) (i : Int) : badB rep rep i = false := by simp [badB]
theorem seen_same (rep ws : List Int) (key ln ld : Int) : auSeen rep rep ws key ln ld = false := by
  unfold auSeen
  rw [List.any_eq_false]
  intro x _
  rw [bad_same]; decide
theorem redN_unit_ok {d : Int} (h : 1 ≤ d) (h2 : d ≤ 1000000000) : okF 1 d = true := by
  have hr : redN 1 d = 1 ∧ redD 1 d = d := red_one (by unfold gcdI; rw [show absI 1 = 1 from by decide]; simp)
  have := red_ok (n := 1) (d := d) (by omega) (by omega) h h2
  rwa [hr.1, hr.2] at this
/-- What an audit of few votes gives. -/
theorem aud_facts {vs xs ws : List Int} {j cn : Nat} {key ld : Int} (lv : vs.length = j) (lx : xs.length = j) (hj : j ≤ 8) (hv : votesB vs ws = true) (hx : votesB xs ws = true) (k0 : 0 ≤ key) (k1 : key ≤ 2147483646) (l0 : 2 ≤ ld) (l1 : ld ≤ 31)
    (hF : adopt xs ws ≠ adopt vs ws → 0 < marg vs ws ∧ marg vs ws ≤ cn) (hcn : cn ≤ j) :
    ∃ s : Nat, s ≤ j ∧ auRes vs vs ws key 1 ld = ((s : Int), adopt vs ws, true) ∧
      auRes vs xs ws key 1 ld = (if ((auditL key j).take s).any (badB vs xs) then ((j : Int), adopt xs ws, true) else ((s : Int), adopt vs ws, true)) ∧
      (adopt xs ws ≠ adopt vs ws → cmpF (riskN j cn s) (riskD j cn s) 1 ld ≤ 0) := by
  have hok : okF 1 ld = true := redN_unit_ok (by omega) (by omega)
  have hkk : inR key 0 2147483646 = true := inR_true.2 ⟨k0, k1⟩
  have o1 : auOk vs vs ws key 1 ld = true := by simp [auOk, hv, hkk, hok]
  have o2 : auOk vs xs ws key 1 ld = true := by simp [auOk, hv, hx, hkk, hok]
  rcases marg_cut vs ws with hm | hm
  · refine ⟨0, Nat.zero_le _, ?_, ?_, fun h => by have := (hF h).1; omega⟩
    · rw [au_none o1 (by omega)]; rfl
    · rw [au_none o2 (by omega)]; simp
  · have hml := marg_le lv hv
    have hse : 0 ≤ auSm vs ws 1 ld := by unfold auSm; rw [lv]; exact samp_exists (by omega) (by omega) (by omega) hml (by omega)
    have hsi := sampF_in (j : Int) (marg vs ws) 1 ld ((j : Int) + 1).toNat 0
    obtain ⟨s, hs⟩ := Int.eq_ofNat_of_zero_le hse
    have hs2 : sampI (j : Int) (marg vs ws) 1 ld = s := by unfold auSm at hs; rwa [lv] at hs
    have hsj : s ≤ j := by unfold sampI at hs2; omega
    refine ⟨s, hsj, ?_, ?_, fun h => ?_⟩
    · rw [au_end o1 (by omega) (by omega) (seen_same _ _ _ _ _), hs]
    · by_cases hd : auSeen vs xs ws key 1 ld = true
      · rw [au_seen o2 (by omega) (by omega) hd, lv]
        unfold auSeen at hd
        rw [hs, lv, Int.toNat_natCast] at hd
        rw [if_pos hd]
      · have hd' : auSeen vs xs ws key 1 ld = false := by simpa using hd
        rw [au_end o2 (by omega) (by omega) hd', hs]
        unfold auSeen at hd'
        rw [hs, lv, Int.toNat_natCast] at hd'
        rw [hd']; rfl
    · obtain ⟨f1, f2⟩ := hF h
      have hit := sampF_hits (j : Int) (marg vs ws) 1 ld ((j : Int) + 1).toNat 0 (by unfold sampI at hs2; omega) (Int.le_refl 0)
      have e2 : sampF (j : Int) (marg vs ws) 1 ld ((j : Int) + 1).toNat 0 = s := hs2
      rw [e2] at hit
      obtain ⟨x, hxm⟩ := Int.eq_ofNat_of_zero_le (show 0 ≤ marg vs ws by omega)
      rw [hxm] at hit f2
      exact risk_mono hj (by omega) hcn hsj (by omega) hit
end Go.Proofs.Ytfanjnoaifhnnaa
