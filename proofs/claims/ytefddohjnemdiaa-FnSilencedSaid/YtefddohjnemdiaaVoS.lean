/- Ends, weights, the lost, and a member that falls silent, without a program. -/
import Derived.Test.YtefddohjnemdiaaVoP
namespace Go.Proofs.Ytefddohjnemdiaa
set_option linter.unusedVariables false
theorem dd_bd {V : List Vo} (ok : VOk V) {rule i : Nat} (hi : i < V.length) (h : Rch V [] i) : Dd V (cs rule) i ≤ 48 := by
  have h1 := (dd_short ok (cs_ok rule) _ i rfl hi h).1
  have h2 := rk_bd (V := V) (c := cs rule) hi
  have := ok.n12
  omega
def sil (V : List Vo) (m : Nat) : List Vo := V.set m ⟨false, []⟩
theorem sil_len (V : List Vo) (m : Nat) : (sil V m).length = V.length := by simp [sil]
theorem sil_spk {V : List Vo} {m i : Nat} (h : i ≠ m) : spk (sil V m) i = spk V i := by
  unfold spk sil
  rw [List.getElem?_set_ne (Ne.symm h)]
theorem sil_trs {V : List Vo} {m i : Nat} (h : i ≠ m) : trs (sil V m) i = trs V i := by
  unfold trs sil
  rw [List.getElem?_set_ne (Ne.symm h)]
theorem sil_spk_m (V : List Vo) (m : Nat) : spk (sil V m) m = false := by
  unfold spk sil
  by_cases h : m < V.length
  · rw [List.getElem?_set_self h]; rfl
  · rw [List.getElem?_eq_none (by simp; omega)]; rfl
theorem sil_trs_m (V : List Vo) (m : Nat) : trs (sil V m) m = [] := by
  unfold trs sil
  by_cases h : m < V.length
  · rw [List.getElem?_set_self h]; rfl
  · rw [List.getElem?_eq_none (by simp; omega)]; rfl
theorem sil_sub {V : List Vo} {m i t : Nat} (h : t ∈ trs (sil V m) i) : i ≠ m ∧ t ∈ trs V i := by
  by_cases e : i = m
  · subst e
    rw [sil_trs_m] at h
    cases h
  · rw [sil_trs e] at h
    exact ⟨e, h⟩
theorem sil_at {V : List Vo} {m i k t : Nat} (h : (trs (sil V m) i)[k]? = some t) : i ≠ m ∧ (trs V i)[k]? = some t := by
  by_cases e : i = m
  · subst e
    rw [sil_trs_m] at h
    cases h
  · rw [sil_trs e] at h
    exact ⟨e, h⟩
theorem sil_yes {V : List Vo} {m i : Nat} (h : spk (sil V m) i = true) : i ≠ m ∧ spk V i = true := by
  by_cases e : i = m
  · subst e
    rw [sil_spk_m] at h
    cases h
  · rw [sil_spk e] at h
    exact ⟨e, h⟩
theorem sil_ok {V : List Vo} (ok : VOk V) (m : Nat) : VOk (sil V m) := by
  refine ⟨by rw [sil_len]; exact ok.n1, by rw [sil_len]; exact ok.n12, fun i t h => by rw [sil_len]; exact ok.lt i t (sil_sub h).2, fun i t h => ok.ne i t (sil_sub h).2, fun i => ?_, fun i => ?_⟩
  · by_cases e : i = m
    · subst e; rw [sil_trs_m]; exact List.nodup_nil
    · rw [sil_trs e]; exact ok.nd i
  · by_cases e : i = m
    · subst e; rw [sil_trs_m]; simp
    · rw [sil_trs e]; exact ok.l4 i
theorem sil_rch {V : List Vo} {m : Nat} {av : List Nat} {x : Nat} (h : Rch (sil V m) av x) : Rch V av x := by
  induction h with
  | stop hx hs => exact .stop hx (sil_yes hs).2
  | step hx hs ht _ ih => exact .step hx (by rw [← sil_spk (sil_sub ht).1]; exact hs) (sil_sub ht).2 ih
theorem sil_wk {V : List Vo} {m : Nat} {c : Nat → Nat} {r i d : Nat} (h : Wk (sil V m) c r i d) : Wk V c r i d := by
  induction h with
  | stop hs => exact .stop (sil_yes hs).2
  | step hs hk _ ih => exact .step (by rw [← sil_spk (sil_at hk).1]; exact hs) (sil_at hk).2 ih
theorem sil_dd {V : List Vo} {m : Nat} {c : Nat → Nat} {i : Nat} (h : Rch (sil V m) [] i) : Dd V c i ≤ Dd (sil V m) c i := by
  obtain ⟨⟨r, hw⟩, _⟩ := dd_some (c := c) h
  exact (dd_some (c := c) (sil_rch h)).2 _ _ (sil_wk hw)
theorem sil_bpo {V : List Vo} (ok : VOk V) {rule m : Nat} : ∀ (f : Nat) (q : List Nat) (o : Nat), GP V rule q o → V.length ≤ f + q.length + 1 → m ∉ bpo V rule f q o →
    bpo (sil V m) rule f q o = bpo V rule f q o ∧ Rch (sil V m) q o ∧ (rule ≠ 2 → Dd (sil V m) (cs rule) o = Dd V (cs rule) o) := by
  intro f
  have stop : ∀ (f : Nat) (q : List Nat) (o : Nat), GP V rule q o → m ∉ bpo V rule f q o → spk V o = true → bpo (sil V m) rule f q o = bpo V rule f q o ∧ Rch (sil V m) q o ∧ (rule ≠ 2 → Dd (sil V m) (cs rule) o = Dd V (cs rule) o) := by
    intro f q o h hm hs
    rw [bpo_stop hs] at hm ⊢
    have ho : o ≠ m := fun e => hm (by simp [e])
    have hs' : spk (sil V m) o = true := by rw [sil_spk ho]; exact hs
    have hoq : o ∉ q := by
      have := h.nd
      rw [List.nodup_append] at this
      exact fun hx => this.2.2 o hx o (by simp) rfl
    exact ⟨bpo_stop hs', .stop hoq hs', fun _ => by rw [dd_spk hs, dd_spk hs']⟩
  induction f with
  | zero =>
    intro q o h hf hm
    by_cases hs : spk V o = true
    · exact stop 0 q o h hm hs
    · have hs : spk V o = false := by simpa using hs
      obtain ⟨t, ht⟩ := h.nxt hs
      obtain ⟨j, h2, h3, _⟩ := nxt_some ht
      have := (h.step ok hs h2 h3).len
      simp at this
      omega
  | succ f ih =>
    intro q o h hf hm
    by_cases hs : spk V o = true
    · exact stop _ q o h hm hs
    · have hs : spk V o = false := by simpa using hs
      obtain ⟨t, ht⟩ := h.nxt hs
      obtain ⟨j, h2, h3, h4⟩ := nxt_some ht
      have hg2 := h.step ok hs h2 h3
      rw [bpo_next hs ht] at hm ⊢
      obtain ⟨e1, e2, e3⟩ := ih (q ++ [o]) t hg2 (by simp; omega) hm
      have hoq : o ∉ q := by
        have := h.nd
        rw [List.nodup_append] at this
        exact fun hx => this.2.2 o hx o (by simp) rfl
      have ho : o ≠ m := by
        rintro rfl
        obtain ⟨l, o', g1, _⟩ := bpo_end ok (rule := rule) f (q ++ [o]) t hg2 (by simp; omega)
        exact hm (by rw [g1]; simp)
      have hs' : spk (sil V m) o = false := by rw [sil_spk ho]; exact hs
      have htr : trs (sil V m) o = trs V o := sil_trs ho
      have hr : Rch (sil V m) q o := .step hoq hs' (by rw [htr]; exact List.mem_of_getElem? h2) (e2.less (fun y hy => List.mem_append_left _ hy))
      have hd : rule ≠ 2 → Dd (sil V m) (cs rule) o = Dd V (cs rule) o := by
        intro hr2
        have h5 := e3 hr2
        unfold okT at h3
        rw [if_neg hr2] at h3
        have hr0 : Rch (sil V m) [] o := hr.less (by simp)
        have ht0 : Rch (sil V m) [] t := e2.less (by simp)
        have h6 := sil_dd (c := cs rule) hr0
        have h7 := dd_le (c := cs rule) hs' (by rw [htr]; exact h2) ht0
        omega
      refine ⟨?_, hr, hd⟩
      have hn : nxt (sil V m) rule q o = some t := by
        refine nxt_of (j := j) (by rw [htr]; exact h2) ?_ ?_
        · unfold okT at h3 ⊢
          by_cases hr2 : rule = 2
          · rw [if_pos hr2]; exact e2
          · rw [if_neg hr2] at h3 ⊢
            rw [e3 hr2, hd hr2]; exact h3
        · intro i x hi hx hk
          rw [htr] at hx
          refine h4 i x hi hx ?_
          unfold okT at hk ⊢
          by_cases hr2 : rule = 2
          · rw [if_pos hr2] at hk ⊢
            exact sil_rch hk
          · rw [if_neg hr2] at hk ⊢
            rw [hd hr2] at hk
            have hbd := dd_bd ok (rule := rule) (h.lt o (by simp)) (h.r1 hr2).1
            by_cases hrx : Rch (sil V m) [] x
            · have h6 := sil_dd (c := cs rule) hrx
              have h7 := dd_le (c := cs rule) hs hx (sil_rch hrx)
              omega
            · rw [dd_none hrx] at hk
              omega
      rw [bpo_next hs' hn, e1]
theorem sil_path {V : List Vo} (ok : VOk V) {rule m i : Nat} (hi : i < V.length) (h : Rch V [] i) (hm : m ∉ bpath V rule i) : Rch (sil V m) [] i ∧ bpath (sil V m) rule i = bpath V rule i := by
  unfold bpath at hm ⊢
  rw [if_pos h] at hm ⊢
  obtain ⟨h1, h2, _⟩ := sil_bpo ok (rule := rule) V.length [] i (GP.start hi h) (by omega) hm
  rw [if_pos h2, sil_len, h1]
  exact ⟨h2, rfl⟩
/-! ### ends and weights -/
noncomputable def endZ (V : List Vo) (rule i : Nat) : Int := match (bpath V rule i).getLast? with
  | some x => (x : Int)
  | none => -1
theorem endZ_no {V : List Vo} {rule i : Nat} (h : ¬ Rch V [] i) : endZ V rule i = -1 := by
  unfold endZ
  rw [bpath_no h]
  rfl
theorem endZ_yes {V : List Vo} (ok : VOk V) {rule i : Nat} (hi : i < V.length) (h : Rch V [] i) : ∃ l o, bpath V rule i = l ++ [o] ∧ o < V.length ∧ spk V o = true ∧ (∀ x ∈ l, spk V x = false) ∧ endZ V rule i = (o : Int) := by
  have hb := bpath_yes ok (rule := rule) hi h
  obtain ⟨l, o, e, hs, hl⟩ := hb.ex
  refine ⟨l, o, e, hb.lt o (by rw [e]; simp), hs, hl, ?_⟩
  unfold endZ
  rw [e]
  simp
theorem endZ_cases {V : List Vo} (ok : VOk V) (rule : Nat) {i : Nat} (hi : i < V.length) : (¬ Rch V [] i ∧ endZ V rule i = -1) ∨ (Rch V [] i ∧ ∃ o, o < V.length ∧ spk V o = true ∧ endZ V rule i = (o : Int) ∧ ∀ x, spk V x = true → (x ∈ bpath V rule i ↔ x = o)) := by
  by_cases h : Rch V [] i
  · obtain ⟨l, o, e, h1, h2, h3, h4⟩ := endZ_yes ok (rule := rule) hi h
    refine .inr ⟨h, o, h1, h2, h4, fun x hx => ?_⟩
    rw [e]
    constructor
    · intro hm
      rcases List.mem_append.1 hm with hm | hm
      · rw [h3 x hm] at hx; cases hx
      · simpa using hm
    · rintro rfl; simp
  · exact .inl ⟨h, endZ_no h⟩
noncomputable def wtN (V : List Vo) (rule k j : Nat) : Nat := ((List.range k).filter fun i => endZ V rule i == (j : Int)).length
noncomputable def wtK (V : List Vo) (rule k : Nat) : List Nat := (List.range V.length).map (wtN V rule k)
theorem wtK_len (V : List Vo) (rule k : Nat) : (wtK V rule k).length = V.length := by simp [wtK]
theorem wtK_at {V : List Vo} {rule k j : Nat} (hj : j < V.length) : (wtK V rule k)[j]? = some (wtN V rule k j) := by
  unfold wtK
  rw [List.getElem?_map, List.getElem?_range hj]
  rfl
theorem wtN_le (V : List Vo) (rule k j : Nat) : wtN V rule k j ≤ k := by
  have := List.length_filter_le (fun i => endZ V rule i == (j : Int)) (List.range k)
  unfold wtN
  simpa using this
theorem wtN_zero (V : List Vo) (rule j : Nat) : wtN V rule 0 j = 0 := rfl
theorem wtK_zero (V : List Vo) (rule : Nat) : wtK V rule 0 = List.replicate V.length 0 := by
  apply List.ext_getElem?
  intro j
  by_cases hj : j < V.length
  · rw [wtK_at hj, List.getElem?_replicate, if_pos hj, wtN_zero]
  · rw [List.getElem?_eq_none (by rw [wtK_len]; omega), List.getElem?_eq_none (by simp; omega)]
theorem wtN_succ (V : List Vo) (rule k j : Nat) : wtN V rule (k + 1) j = wtN V rule k j + if endZ V rule k = (j : Int) then 1 else 0 := by
  unfold wtN
  rw [List.range_succ, List.filter_append, List.length_append]
  congr 1
  by_cases h : endZ V rule k = (j : Int)
  · rw [if_pos h, List.filter_cons_of_pos (by simp [h])]; rfl
  · rw [if_neg h, List.filter_cons_of_neg (by simp [h])]; rfl
theorem wtK_no {V : List Vo} {rule k : Nat} (h : endZ V rule k = -1) : wtK V rule (k + 1) = wtK V rule k := by
  unfold wtK
  apply List.map_congr_left
  intro j _
  rw [wtN_succ, if_neg (by omega)]
  rfl
theorem wtK_yes {V : List Vo} {rule k o : Nat} (ho : o < V.length) (h : endZ V rule k = (o : Int)) : wtK V rule (k + 1) = (wtK V rule k).set o (wtN V rule k o + 1) := by
  apply List.ext_getElem?
  intro j
  by_cases hj : j < V.length
  · rw [wtK_at hj, wtN_succ]
    by_cases e : j = o
    · subst e
      rw [List.getElem?_set_self (by rw [wtK_len]; exact hj), if_pos h]
    · rw [List.getElem?_set_ne (by omega), wtK_at hj, if_neg (by omega)]
      rfl
  · rw [List.getElem?_eq_none (by rw [wtK_len]; omega), List.getElem?_eq_none (by rw [List.length_set, wtK_len]; omega)]
theorem sum_set {l : List Nat} {j x y : Nat} (h : l[j]? = some x) : (l.set j y).sum + x = l.sum + y := by
  induction l generalizing j with
  | nil => cases h
  | cons a l ih =>
    cases j with
    | zero => simp at h; subst h; simp; omega
    | succ j =>
      have := ih (j := j) (by simpa using h)
      simp
      omega
open Classical in
noncomputable def lostK (V : List Vo) (k : Nat) : List Nat := (List.range k).filter fun i => decide (¬ Rch V [] i)
theorem lostK_yes {V : List Vo} {k : Nat} (h : ¬ Rch V [] k) : lostK V (k + 1) = lostK V k ++ [k] := by
  unfold lostK
  rw [List.range_succ, List.filter_append, List.filter_cons_of_pos (by simp [h])]
  rfl
theorem lostK_no {V : List Vo} {k : Nat} (h : Rch V [] k) : lostK V (k + 1) = lostK V k := by
  unfold lostK
  rw [List.range_succ, List.filter_append, List.filter_cons_of_neg (by simp [h])]
  simp
theorem lostK_mem {V : List Vo} {k i : Nat} : i ∈ lostK V k ↔ i < k ∧ ¬ Rch V [] i := by
  unfold lostK
  simp
theorem lostK_le (V : List Vo) (k : Nat) : (lostK V k).length ≤ k := by
  unfold lostK
  exact Nat.le_trans (List.length_filter_le _ _) (by simp)
/-- All ballots are counted. -/
theorem wt_sum {V : List Vo} (ok : VOk V) (rule : Nat) : ∀ k, k ≤ V.length → (wtK V rule k).sum + (lostK V k).length = k := by
  intro k
  induction k with
  | zero =>
    intro _
    rw [wtK_zero]
    simp [lostK]
  | succ k ih =>
    intro hk
    have := ih (by omega)
    rcases endZ_cases ok rule (i := k) (by omega) with ⟨h1, h2⟩ | ⟨h1, o, h2, _, h3, _⟩
    · rw [wtK_no h2, lostK_yes h1, List.length_append]
      simp
      omega
    · rw [wtK_yes h2 h3, lostK_no h1]
      have := sum_set (y := wtN V rule k o + 1) (wtK_at (V := V) (rule := rule) (k := k) h2)
      omega
theorem wt_silent {V : List Vo} (ok : VOk V) (rule : Nat) {j : Nat} (hs : spk V j = false) : ∀ k, k ≤ V.length → wtN V rule k j = 0 := by
  intro k
  induction k with
  | zero => intro _; rfl
  | succ k ih =>
    intro hk
    rw [wtN_succ, ih (by omega), if_neg]
    intro e
    rcases endZ_cases ok rule (i := k) (by omega) with ⟨_, h2⟩ | ⟨_, o, _, h2, h3, _⟩
    · omega
    · have : o = j := by omega
      subst this
      rw [hs] at h2
      cases h2
noncomputable def thruK (V : List Vo) (rule m k : Nat) : List Nat := (List.range k).filter fun i => decide (m ∈ bpath V rule i)
theorem thruK_yes {V : List Vo} {rule m k : Nat} (h : m ∈ bpath V rule k) : thruK V rule m (k + 1) = thruK V rule m k ++ [k] := by
  unfold thruK
  rw [List.range_succ, List.filter_append, List.filter_cons_of_pos (by simp [h])]
  rfl
theorem thruK_no {V : List Vo} {rule m k : Nat} (h : m ∉ bpath V rule k) : thruK V rule m (k + 1) = thruK V rule m k := by
  unfold thruK
  rw [List.range_succ, List.filter_append, List.filter_cons_of_neg (by simp [h])]
  simp
theorem thruK_le (V : List Vo) (rule m k : Nat) : (thruK V rule m k).length ≤ k := by
  have := List.length_filter_le (fun i => decide (m ∈ bpath V rule i)) (List.range k)
  unfold thruK
  simpa using this
theorem thru_wt {V : List Vo} (ok : VOk V) (rule : Nat) {m : Nat} (hs : spk V m = true) : ∀ k, k ≤ V.length → (thruK V rule m k).length = wtN V rule k m := by
  intro k
  induction k with
  | zero => intro _; rfl
  | succ k ih =>
    intro hk
    have h0 := ih (by omega)
    rw [wtN_succ]
    rcases endZ_cases ok rule (i := k) (by omega) with ⟨h1, h2⟩ | ⟨h1, o, _, _, h3, h4⟩
    · rw [thruK_no (by rw [bpath_no h1]; simp), if_neg (by omega), h0]
      rfl
    · by_cases e : m = o
      · rw [thruK_yes ((h4 m hs).2 e), if_pos (by rw [h3, e]), List.length_append, h0]
        rfl
      · rw [thruK_no (fun hm => e ((h4 m hs).1 hm)), if_neg (by omega), h0]
        rfl
/-- No other member loses weight. -/
theorem sil_wt {V : List Vo} (ok : VOk V) (rule : Nat) {m j : Nat} (hs : spk V m = true) (hj : j ≠ m) : ∀ k, k ≤ V.length → wtN V rule k j ≤ wtN (sil V m) rule k j := by
  intro k
  induction k with
  | zero => intro _; exact Nat.le_refl _
  | succ k ih =>
    intro hk
    have h0 := ih (by omega)
    rw [wtN_succ, wtN_succ]
    by_cases e : endZ V rule k = (j : Int)
    · have e2 : endZ (sil V m) rule k = (j : Int) := by
        rcases endZ_cases ok rule (i := k) (by omega) with ⟨h1, h2⟩ | ⟨h1, o, _, _, h3, h4⟩
        · omega
        · have hm : m ∉ bpath V rule k := fun hm => hj (by have := (h4 m hs).1 hm; omega)
          unfold endZ at e ⊢
          rw [(sil_path ok (by omega) h1 hm).2]
          exact e
      rw [if_pos e, if_pos e2]
      omega
    · rw [if_neg e]
      omega
noncomputable def settleK (V : List Vo) (rule k : Nat) : List Int := (List.range k).map (endZ V rule)
theorem settleK_succ (V : List Vo) (rule k : Nat) : settleK V rule (k + 1) = settleK V rule k ++ [endZ V rule k] := by
  unfold settleK
  rw [List.range_succ, List.map_append]
  rfl
theorem settleK_len (V : List Vo) (rule k : Nat) : (settleK V rule k).length = k := by simp [settleK]
theorem settleK_at {V : List Vo} {rule k i : Nat} (h : i < k) : (settleK V rule k)[i]? = some (endZ V rule i) := by
  unfold settleK
  rw [List.getElem?_map, List.getElem?_range h]
  rfl
end Go.Proofs.Ytefddohjnemdiaa
