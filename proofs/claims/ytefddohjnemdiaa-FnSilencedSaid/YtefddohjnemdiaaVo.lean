/- Delegations, without a program: who is reached, how far, and by which path. -/
import Derived.Test.YtefddohjnemdiaaBase
namespace Go.Proofs.Ytefddohjnemdiaa
set_option linter.unusedVariables false
structure Vo where
  sp : Bool
  tr : List Nat
def spk (V : List Vo) (i : Nat) : Bool := (V[i]?.map Vo.sp).getD false
def trs (V : List Vo) (i : Nat) : List Nat := (V[i]?.map Vo.tr).getD []
theorem spk_at {V : List Vo} {i : Nat} {v : Vo} (h : V[i]? = some v) : spk V i = v.sp := by unfold spk; rw [h]; rfl
theorem trs_at {V : List Vo} {i : Nat} {v : Vo} (h : V[i]? = some v) : trs V i = v.tr := by unfold trs; rw [h]; rfl
structure VOk (V : List Vo) : Prop where
  n1 : 1 ≤ V.length
  n12 : V.length ≤ 12
  lt : ∀ i t, t ∈ trs V i → t < V.length
  ne : ∀ i t, t ∈ trs V i → t ≠ i
  nd : ∀ i, (trs V i).Nodup
  l4 : ∀ i, (trs V i).length ≤ 4
inductive Rch (V : List Vo) (av : List Nat) : Nat → Prop
  | stop {x : Nat} : x ∉ av → spk V x = true → Rch V av x
  | step {x t : Nat} : x ∉ av → spk V x = false → t ∈ trs V x → Rch V av t → Rch V av x
theorem Rch.out {V : List Vo} {av : List Nat} {x : Nat} (h : Rch V av x) : x ∉ av := by cases h <;> assumption
theorem Rch.push {V : List Vo} {av : List Nat} {o x : Nat} (ho : spk V o = false) (h : Rch V av x) : Rch V (av ++ [o]) x ∨ ∃ t ∈ trs V o, Rch V (av ++ [o]) t := by
  induction h with
  | @stop x hx hs =>
    refine .inl (.stop (fun hm => ?_) hs)
    rcases List.mem_append.1 hm with h | h
    · exact hx h
    · rw [List.mem_singleton] at h
      rw [h, ho] at hs
      cases hs
  | @step x t hx hs ht _ ih =>
    rcases ih with ih | ih
    · by_cases e : x = o
      · subst e
        exact .inr ⟨t, ht, ih⟩
      · exact .inl (.step (by simp [hx, e]) hs ht ih)
    · exact .inr ih
theorem Rch.less {V : List Vo} {av av' : List Nat} {x : Nat} (hs : ∀ y ∈ av, y ∈ av') (h : Rch V av' x) : Rch V av x := by
  induction h with
  | stop hx hp => exact .stop (fun hm => hx (hs _ hm)) hp
  | step hx hp ht _ ih => exact .step (fun hm => hx (hs _ hm)) hp ht ih
theorem nodup_bd : ∀ (n : Nat) (l : List Nat), l.Nodup → (∀ x ∈ l, x < n) → l.length ≤ n
  | 0, l, _, h => by
    cases l with
    | nil => exact Nat.le_refl _
    | cons a l => exact absurd (h a (List.mem_cons_self ..)) (by omega)
  | n + 1, l, nd, h => by
    have h1 := nodup_bd n (l.erase n) (nd.erase n) (fun x hx => by
      have h2 := h x (List.mem_of_mem_erase hx)
      have h3 : x ≠ n := fun e => by subst e; exact (List.Nodup.mem_erase_iff nd).1 hx |>.1 rfl
      omega)
    have h4 := List.length_erase (a := n) (l := l)
    split at h4 <;> omega
/-- The search by breadth, while it runs. -/
structure BI (V : List Vo) (av : List Nat) (m : Nat) (vis opn out : List Nat) : Prop where
  nd : vis.Nodup
  vl : ∀ x ∈ vis, x < V.length
  ol : ∀ x ∈ opn, x < V.length
  ul : ∀ x ∈ out, x < V.length
  lo : opn.length ≤ 1 + 4 * vis.length
  lu : out.length ≤ vis.length
  snd : ∀ x ∈ opn, Rch V av x → Rch V av m
  yes : out ≠ [] → Rch V av m
  cpl : out = [] → Rch V av m → ∃ x ∈ opn, Rch V (av ++ vis) x
theorem BI.start {V : List Vo} {av : List Nat} {m : Nat} (hm : m < V.length) : BI V av m [] [m] [] :=
  ⟨List.nodup_nil, by simp, by simpa using hm, by simp, by simp, Nat.le_refl _, by simp, fun h => absurd rfl h, fun _ h => ⟨m, by simp, by simpa using h⟩⟩
theorem BI.skip {V : List Vo} {av : List Nat} {m o : Nat} {vis opn out : List Nat} (h : BI V av m vis (o :: opn) out) (ho : o ∈ av ++ vis) : BI V av m vis opn out :=
  ⟨h.nd, h.vl, fun x hx => h.ol x (List.mem_cons_of_mem _ hx), h.ul, by have := h.lo; simp at this; omega, h.lu, fun x hx => h.snd x (List.mem_cons_of_mem _ hx), h.yes, fun e r => by
    obtain ⟨x, hx, hr⟩ := h.cpl e r
    rcases List.mem_cons.1 hx with rfl | hx
    · exact absurd ho hr.out
    · exact ⟨x, hx, hr⟩⟩
theorem nodup_snoc {vis : List Nat} {o : Nat} (h : vis.Nodup) (ho : o ∉ vis) : (vis ++ [o]).Nodup := by
  rw [List.nodup_append]
  exact ⟨h, by simp, fun a ha b hb e => by rw [List.mem_singleton] at hb; subst hb; subst e; exact ho ha⟩
theorem BI.speaks {V : List Vo} {av : List Nat} {m o : Nat} {vis opn out : List Nat} (h : BI V av m vis (o :: opn) out) (ho : o ∉ av ++ vis) (hs : spk V o = true) : BI V av m (vis ++ [o]) opn (out ++ [o]) := by
  have hol := h.ol o (List.mem_cons_self ..)
  have h1 : o ∉ av := fun hm => ho (List.mem_append_left _ hm)
  have h2 : o ∉ vis := fun hm => ho (List.mem_append_right _ hm)
  refine ⟨nodup_snoc h.nd h2, ?_, fun x hx => h.ol x (List.mem_cons_of_mem _ hx), ?_, ?_, ?_, fun x hx => h.snd x (List.mem_cons_of_mem _ hx), fun _ => h.snd o (List.mem_cons_self ..) (.stop h1 hs), fun e => by simp at e⟩
  · intro x hx
    rcases List.mem_append.1 hx with hx | hx
    · exact h.vl x hx
    · rw [List.mem_singleton] at hx; omega
  · intro x hx
    rcases List.mem_append.1 hx with hx | hx
    · exact h.ul x hx
    · rw [List.mem_singleton] at hx; omega
  · have := h.lo; simp at this ⊢; omega
  · have := h.lu; simp; omega
theorem BI.goes {V : List Vo} (ok : VOk V) {av : List Nat} {m o : Nat} {vis opn out : List Nat} (h : BI V av m vis (o :: opn) out) (ho : o ∉ av ++ vis) (hs : spk V o = false) : BI V av m (vis ++ [o]) (opn ++ trs V o) out := by
  have hol := h.ol o (List.mem_cons_self ..)
  have h1 : o ∉ av := fun hm => ho (List.mem_append_left _ hm)
  have h2 : o ∉ vis := fun hm => ho (List.mem_append_right _ hm)
  refine ⟨nodup_snoc h.nd h2, ?_, ?_, h.ul, ?_, ?_, ?_, h.yes, ?_⟩
  · intro x hx
    rcases List.mem_append.1 hx with hx | hx
    · exact h.vl x hx
    · rw [List.mem_singleton] at hx; omega
  · intro x hx
    rcases List.mem_append.1 hx with hx | hx
    · exact h.ol x (List.mem_cons_of_mem _ hx)
    · exact ok.lt _ _ hx
  · have := h.lo; have := ok.l4 o; simp at this ⊢; simp at *; omega
  · have := h.lu; simp; omega
  · intro x hx r
    rcases List.mem_append.1 hx with hx | hx
    · exact h.snd x (List.mem_cons_of_mem _ hx) r
    · exact h.snd o (List.mem_cons_self ..) (.step h1 hs hx r)
  · intro e r
    obtain ⟨x, hx, hr⟩ := h.cpl e r
    rw [← List.append_assoc]
    rcases hr.push hs with hr | ⟨t, ht, hr⟩
    · rcases List.mem_cons.1 hx with rfl | hx
      · exact absurd (by simp) hr.out
      · exact ⟨x, List.mem_append_left _ hx, hr⟩
    · exact ⟨t, List.mem_append_right _ ht, hr⟩
theorem BI.done {V : List Vo} {av : List Nat} {m : Nat} {vis out : List Nat} (h : BI V av m vis [] out) : out = [] ↔ ¬ Rch V av m :=
  ⟨fun e r => (by obtain ⟨x, hx, _⟩ := h.cpl e r; cases hx), fun r => Classical.byContradiction fun e => r (h.yes e)⟩
theorem BI.len {V : List Vo} {av : List Nat} {m : Nat} {vis opn out : List Nat} (h : BI V av m vis opn out) : vis.length ≤ V.length := nodup_bd _ _ h.nd h.vl
/-- A walk to one who speaks: its steps, where it begins, what it costs. -/
inductive Wk (V : List Vo) (c : Nat → Nat) : Nat → Nat → Nat → Prop
  | stop {i : Nat} : spk V i = true → Wk V c 0 i 0
  | step {r i k t d : Nat} : spk V i = false → (trs V i)[k]? = some t → Wk V c r t d → Wk V c (r + 1) i (d + c (k + 1))
theorem wk_rch {V : List Vo} {c : Nat → Nat} {r i d : Nat} (h : Wk V c r i d) : Rch V [] i := by
  induction h with
  | stop h => exact .stop (by simp) h
  | step h ht _ ih => exact .step (by simp) h (List.mem_of_getElem? ht) ih
theorem rch_wk {V : List Vo} (c : Nat → Nat) {i : Nat} (h : Rch V [] i) : ∃ d r, Wk V c r i d := by
  induction h with
  | stop _ h => exact ⟨0, 0, .stop h⟩
  | step _ h ht _ ih =>
    obtain ⟨d, r, hw⟩ := ih
    obtain ⟨k, hk⟩ := List.mem_iff_getElem?.1 ht
    exact ⟨_, _, .step h hk hw⟩
theorem has_least {p : Nat → Prop} : ∀ n, p n → ∃ m, p m ∧ ∀ k, p k → m ≤ k := by
  intro n
  induction n using Nat.strongRecOn with
  | _ n ih =>
    intro hn
    by_cases h : ∃ k, k < n ∧ p k
    · obtain ⟨k, hk, hp⟩ := h
      exact ih k hk hp
    · exact ⟨n, hn, fun k hk => Nat.le_of_not_lt fun hl => h ⟨k, hl, hk⟩⟩
open Classical in
noncomputable def Dd (V : List Vo) (c : Nat → Nat) (i : Nat) : Nat :=
  if h : ∃ m, (∃ r, Wk V c r i m) ∧ ∀ k, (∃ r, Wk V c r i k) → m ≤ k then Classical.choose h else 1000
theorem dd_some {V : List Vo} {c : Nat → Nat} {i : Nat} (h : Rch V [] i) : (∃ r, Wk V c r i (Dd V c i)) ∧ ∀ r k, Wk V c r i k → Dd V c i ≤ k := by
  obtain ⟨d, r, hw⟩ := rch_wk c h
  have h1 := has_least (p := fun m => ∃ r, Wk V c r i m) d ⟨r, hw⟩
  unfold Dd
  rw [dif_pos h1]
  have := Classical.choose_spec h1
  exact ⟨this.1, fun r k hk => this.2 k ⟨r, hk⟩⟩
theorem dd_none {V : List Vo} {c : Nat → Nat} {i : Nat} (h : ¬ Rch V [] i) : Dd V c i = 1000 := by
  unfold Dd
  rw [dif_neg]
  rintro ⟨m, ⟨r, hw⟩, _⟩
  exact h (wk_rch hw)
theorem dd_spk {V : List Vo} {c : Nat → Nat} {i : Nat} (h : spk V i = true) : Dd V c i = 0 := by
  have := (dd_some (c := c) (Rch.stop (by simp) h)).2 0 0 (.stop h)
  omega
/-- The best next step. -/
theorem dd_next {V : List Vo} {c : Nat → Nat} {i : Nat} (h : Rch V [] i) (hs : spk V i = false) : ∃ k t, (trs V i)[k]? = some t ∧ Rch V [] t ∧ Dd V c t + c (k + 1) = Dd V c i := by
  obtain ⟨⟨r, hw⟩, hl⟩ := dd_some (c := c) h
  generalize hd : Dd V c i = d at hw
  cases hw with
  | stop h1 => rw [hs] at h1; cases h1
  | @step r _ k t d h1 hk hw =>
    have ht := wk_rch hw
    have h2 := (dd_some (c := c) ht).2 _ _ hw
    obtain ⟨⟨r', hw'⟩, _⟩ := dd_some (c := c) ht
    have h3 := hl _ _ (.step hs hk hw')
    exact ⟨k, t, hk, ht, by omega⟩
theorem dd_le {V : List Vo} {c : Nat → Nat} {i k t : Nat} (hs : spk V i = false) (hk : (trs V i)[k]? = some t) (ht : Rch V [] t) : Dd V c i ≤ Dd V c t + c (k + 1) := by
  obtain ⟨⟨r, hw⟩, _⟩ := dd_some (c := c) ht
  exact (dd_some (c := c) (wk_rch (.step hs hk hw))).2 _ _ (.step hs hk hw)
noncomputable def rk (V : List Vo) (c : Nat → Nat) (i : Nat) : Nat := ((List.range V.length).filter fun j => decide (Dd V c j < Dd V c i)).length
theorem rk_lt {V : List Vo} {c : Nat → Nat} {i t : Nat} (ht : t < V.length) (h : Dd V c t < Dd V c i) : rk V c t < rk V c i := by
  unfold rk
  have key : ∀ l : List Nat, ((l.filter fun j => decide (Dd V c j < Dd V c t)).length ≤ (l.filter fun j => decide (Dd V c j < Dd V c i)).length) ∧
      (t ∈ l → (l.filter fun j => decide (Dd V c j < Dd V c t)).length < (l.filter fun j => decide (Dd V c j < Dd V c i)).length) := by
    intro l
    induction l with
    | nil => simp
    | cons a l ih =>
      by_cases h1 : Dd V c a < Dd V c t
      · have h2 : Dd V c a < Dd V c i := by omega
        rw [List.filter_cons_of_pos (by simpa using h1), List.filter_cons_of_pos (by simpa using h2)]
        simp only [List.length_cons]
        refine ⟨by omega, fun hm => ?_⟩
        rcases List.mem_cons.1 hm with rfl | hm
        · omega
        · have := ih.2 hm; omega
      · rw [List.filter_cons_of_neg (by simpa using h1)]
        by_cases h2 : Dd V c a < Dd V c i
        · rw [List.filter_cons_of_pos (by simpa using h2)]
          simp only [List.length_cons]
          exact ⟨by omega, fun _ => by omega⟩
        · rw [List.filter_cons_of_neg (by simpa using h2)]
          refine ⟨ih.1, fun hm => ?_⟩
          rcases List.mem_cons.1 hm with rfl | hm
          · exact absurd h h2
          · exact ih.2 hm
  exact (key _).2 (List.mem_range.2 ht)
theorem filt_lt {p : Nat → Bool} {i : Nat} (hi : p i = false) : ∀ l : List Nat, i ∈ l → (l.filter p).length < l.length
  | [], h => by simp at h
  | a :: l, h => by
    by_cases ha : p a = true
    · rw [List.filter_cons_of_pos ha]
      rcases List.mem_cons.1 h with rfl | h
      · rw [hi] at ha; cases ha
      · have := filt_lt hi l h
        simp only [List.length_cons]; omega
    · rw [List.filter_cons_of_neg ha]
      have := List.length_filter_le p l
      simp only [List.length_cons]; omega
theorem rk_bd {V : List Vo} {c : Nat → Nat} {i : Nat} (hi : i < V.length) : rk V c i < V.length := by
  unfold rk
  have := filt_lt (p := fun j => decide (Dd V c j < Dd V c i)) (i := i) (by simp) (List.range V.length) (List.mem_range.2 hi)
  simpa using this
def CO (c : Nat → Nat) : Prop := ∀ k, k < 4 → 1 ≤ c (k + 1) ∧ c (k + 1) ≤ 4
theorem dd_short {V : List Vo} (ok : VOk V) {c : Nat → Nat} (hc : CO c) : ∀ d i, Dd V c i = d → i < V.length → Rch V [] i → Dd V c i ≤ 4 * rk V c i ∧ ∃ r, r ≤ rk V c i ∧ Wk V c r i (Dd V c i) := by
  intro d
  induction d using Nat.strongRecOn with
  | _ d ih =>
    intro i hd hi h
    by_cases hs : spk V i = true
    · rw [dd_spk hs]
      exact ⟨Nat.zero_le _, 0, Nat.zero_le _, .stop hs⟩
    · have hs : spk V i = false := by simpa using hs
      obtain ⟨k, t, hk, ht, he⟩ := dd_next (c := c) h hs
      have hk4 : k < 4 := by have := (List.getElem?_eq_some_iff.1 hk).1; have := ok.l4 i; omega
      have hcc := hc k hk4
      have htl := ok.lt i t (List.mem_of_getElem? hk)
      obtain ⟨h1, r, h2, h3⟩ := ih (Dd V c t) (by omega) t rfl htl ht
      have h4 := rk_lt (V := V) (c := c) (i := i) htl (by omega)
      exact ⟨by omega, r + 1, by omega, by rw [← he]; exact .step hs hk h3⟩
/-- Distances while they are lessened: r rounds done for all, one more for those below j. -/
structure Rx (V : List Vo) (c : Nat → Nat) (r j : Nat) (ls : List Nat) : Prop where
  len : ls.length = V.length
  sp : ∀ i, i < V.length → spk V i = true → ls[i]? = some 0
  ub : ∀ x ∈ ls, x ≤ 1000
  snd : ∀ i x, ls[i]? = some x → x = 1000 ∨ ∃ r, Wk V c r i x
  cpl : ∀ i d r' x, ls[i]? = some x → r' ≤ r → Wk V c r' i d → x ≤ d
  cpj : ∀ i d r' x, i < j → ls[i]? = some x → r' ≤ r + 1 → Wk V c r' i d → x ≤ d
theorem Rx.next {V : List Vo} {c : Nat → Nat} {r : Nat} {ls : List Nat} (h : Rx V c r V.length ls) : Rx V c (r + 1) 0 ls :=
  ⟨h.len, h.sp, h.ub, h.snd, fun i d r' x hx hr hw => h.cpj i d r' x (by have := (List.getElem?_eq_some_iff.1 hx).1; have := h.len; omega) hx hr hw, fun i d r' x hi => by omega⟩
theorem Rx.spoken {V : List Vo} {c : Nat → Nat} {r j : Nat} {ls : List Nat} (h : Rx V c r j ls) (hj : j < V.length) (hs : spk V j = true) : Rx V c r (j + 1) ls :=
  ⟨h.len, h.sp, h.ub, h.snd, h.cpl, fun i d r' x hi hx hr hw => by
    by_cases e : i = j
    · subst e
      have := h.sp i hj hs
      rw [hx] at this
      injection this with this
      omega
    · exact h.cpj i d r' x (by omega) hx hr hw⟩
/-- Within the steps of one member. -/
structure Rj (V : List Vo) (c : Nat → Nat) (r j k : Nat) (ls : List Nat) : Prop where
  rx : Rx V c r j ls
  up : ∀ k' t x y, k' < k → (trs V j)[k']? = some t → ls[j]? = some x → ls[t]? = some y → x ≤ y + c (k' + 1)
theorem Rj.start {V : List Vo} {c : Nat → Nat} {r j : Nat} {ls : List Nat} (h : Rx V c r j ls) : Rj V c r j 0 ls := ⟨h, fun k' t x y hk => by omega⟩
theorem Rj.step {V : List Vo} (ok : VOk V) {c : Nat → Nat} {r j k t x y : Nat} {ls : List Nat} (h : Rj V c r j k ls) (hs : spk V j = false) (hk : (trs V j)[k]? = some t) (hx : ls[j]? = some x) (hy : ls[t]? = some y) :
    Rj V c r j (k + 1) (ls.set j (min x (y + c (k + 1)))) := by
  have hjl := (List.getElem?_eq_some_iff.1 hx).1
  have htj : t ≠ j := ok.ne j t (List.mem_of_getElem? hk)
  have hgo : ∀ i, i ≠ j → (ls.set j (min x (y + c (k + 1))))[i]? = ls[i]? := fun i hi => List.getElem?_set_ne (by omega)
  have hgj : (ls.set j (min x (y + c (k + 1))))[j]? = some (min x (y + c (k + 1))) := List.getElem?_set_self hjl
  have hmn : min x (y + c (k + 1)) ≤ x := Nat.min_le_left ..
  have hmr : min x (y + c (k + 1)) ≤ y + c (k + 1) := Nat.min_le_right ..
  have hxu := h.rx.ub x (List.mem_of_getElem? hx)
  refine ⟨⟨by rw [List.length_set]; exact h.rx.len, ?_, ?_, ?_, ?_, ?_⟩, ?_⟩
  · intro i hi hsi
    rw [hgo i (fun e => by subst e; rw [hs] at hsi; cases hsi)]
    exact h.rx.sp i hi hsi
  · intro z hz
    rcases List.mem_or_eq_of_mem_set hz with hz | rfl
    · exact h.rx.ub z hz
    · omega
  · intro i z hz
    by_cases e : i = j
    · subst e
      rw [hgj] at hz
      injection hz with hz
      subst hz
      rcases Nat.le_total x (y + c (k + 1)) with hl | hl
      · rw [Nat.min_eq_left hl]
        exact h.rx.snd i x hx
      · rw [Nat.min_eq_right hl]
        rcases h.rx.snd t y hy with rfl | ⟨r', hw⟩
        · exact .inl (by omega)
        · exact .inr ⟨r' + 1, .step hs hk hw⟩
    · rw [hgo i e] at hz
      exact h.rx.snd i z hz
  · intro i d r' z hz hr hw
    by_cases e : i = j
    · subst e
      rw [hgj] at hz
      injection hz with hz
      have := h.rx.cpl i d r' x hx hr hw
      omega
    · rw [hgo i e] at hz
      exact h.rx.cpl i d r' z hz hr hw
  · intro i d r' z hi hz hr hw
    rw [hgo i (by omega)] at hz
    exact h.rx.cpj i d r' z hi hz hr hw
  · intro k' t' x' y' hk' ht' hx' hy'
    rw [hgj] at hx'
    injection hx' with hx'
    rw [hgo t' (ok.ne j t' (List.mem_of_getElem? ht'))] at hy'
    by_cases e : k' = k
    · subst e
      rw [hk] at ht'
      injection ht' with ht'
      subst ht'
      rw [hy] at hy'
      injection hy' with hy'
      omega
    · have := h.up k' t' x y' (by omega) ht' hx hy'
      omega
theorem Rj.done {V : List Vo} (ok : VOk V) {c : Nat → Nat} {r j : Nat} {ls : List Nat} (h : Rj V c r j (trs V j).length ls) (hs : spk V j = false) : Rx V c r (j + 1) ls :=
  ⟨h.rx.len, h.rx.sp, h.rx.ub, h.rx.snd, h.rx.cpl, fun i d r' x hi hx hr hw => by
    by_cases e : i = j
    · subst e
      cases hw with
      | stop h1 => rw [hs] at h1; cases h1
      | @step r'' _ k t d' h1 hk hw =>
        have htl := ok.lt i t (List.mem_of_getElem? hk)
        obtain ⟨y, hy⟩ : ∃ y, ls[t]? = some y := ⟨_, List.getElem?_eq_getElem (by rw [h.rx.len]; exact htl)⟩
        have h2 := h.rx.cpl t d' r'' y hy (by omega) hw
        have h3 := h.up k t x y (List.getElem?_eq_some_iff.1 hk).1 hk hx hy
        omega
    · exact h.rx.cpj i d r' x (by omega) hx hr hw⟩
noncomputable def dds (V : List Vo) (c : Nat → Nat) : List Nat := (List.range V.length).map (Dd V c)
theorem Rx.done {V : List Vo} (ok : VOk V) {c : Nat → Nat} (hc : CO c) {ls : List Nat} (h : Rx V c V.length 0 ls) : ls = dds V c := by
  apply List.ext_getElem?
  intro i
  unfold dds
  by_cases hi : i < V.length
  · obtain ⟨x, hx⟩ : ∃ x, ls[i]? = some x := ⟨_, List.getElem?_eq_getElem (by rw [h.len]; exact hi)⟩
    rw [hx, List.getElem?_map, List.getElem?_range hi]
    show some x = some (Dd V c i)
    congr 1
    by_cases hr : Rch V [] i
    · obtain ⟨h1, r, h2, h3⟩ := dd_short ok hc _ i rfl hi hr
      have h4 := rk_bd (V := V) (c := c) hi
      have h5 := h.cpl i _ r x hx (by omega) h3
      have h6 := ok.n12
      rcases h.snd i x hx with e | ⟨r', hw⟩
      · omega
      · have := (dd_some (c := c) hr).2 _ _ hw
        omega
    · rw [dd_none hr]
      rcases h.snd i x hx with e | ⟨r', hw⟩
      · exact e
      · exact absurd (wk_rch hw) hr
  · rw [List.getElem?_eq_none (by rw [h.len]; omega), List.getElem?_eq_none (by simp; omega)]
def dInit (V : List Vo) : List Nat := V.map fun v => if v.sp then 0 else 1000
theorem Rx.start {V : List Vo} {c : Nat → Nat} : Rx V c 0 0 (dInit V) := by
  have hat : ∀ i x, (dInit V)[i]? = some x → (spk V i = true ∧ x = 0) ∨ (spk V i = false ∧ x = 1000) := by
    intro i x hx
    unfold dInit at hx
    rw [List.getElem?_map] at hx
    obtain ⟨v, hv, rfl⟩ := Option.map_eq_some_iff.1 hx
    rw [spk_at hv]
    cases v.sp
    · exact .inr ⟨rfl, rfl⟩
    · exact .inl ⟨rfl, rfl⟩
  refine ⟨by simp [dInit], ?_, ?_, ?_, ?_, fun i d r' x hi => by omega⟩
  · intro i hi hs
    obtain ⟨x, hx⟩ : ∃ x, (dInit V)[i]? = some x := ⟨_, List.getElem?_eq_getElem (by simpa [dInit] using hi)⟩
    rcases hat i x hx with ⟨_, rfl⟩ | ⟨h, _⟩
    · exact hx
    · rw [hs] at h; cases h
  · intro x hx
    obtain ⟨i, hi⟩ := List.mem_iff_getElem?.1 hx
    rcases hat i x hi with ⟨_, rfl⟩ | ⟨_, rfl⟩ <;> omega
  · intro i x hx
    rcases hat i x hx with ⟨h, rfl⟩ | ⟨_, rfl⟩
    · exact .inr ⟨0, .stop h⟩
    · exact .inl rfl
  · intro i d r' x hx hr hw
    obtain rfl : r' = 0 := by omega
    cases hw with
    | stop h =>
      rcases hat i x hx with ⟨_, rfl⟩ | ⟨h', _⟩
      · omega
      · rw [h] at h'; cases h'
end Go.Proofs.Ytefddohjnemdiaa
