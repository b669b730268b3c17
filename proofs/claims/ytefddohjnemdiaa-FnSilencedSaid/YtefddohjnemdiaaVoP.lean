/- The best paths of delegations, without a program. -/
import Derived.Test.YtefddohjnemdiaaVo
namespace Go.Proofs.Ytefddohjnemdiaa
set_option linter.unusedVariables false
def cs (rule : Nat) (k : Nat) : Nat := if rule = 1 then k else 1
theorem cs_ok (rule : Nat) : CO (cs rule) := by
  intro k hk
  unfold cs
  split <;> omega
/-- The step from o to its k-th trusted one is taken. -/
def okT (V : List Vo) (rule : Nat) (q : List Nat) (o k t : Nat) : Prop :=
  if rule = 2 then Rch V (q ++ [o]) t else Dd V (cs rule) t + cs rule (k + 1) = Dd V (cs rule) o
open Classical in
noncomputable def fnd (p : Nat → Nat → Prop) : Nat → List Nat → Option Nat
  | _, [] => none
  | k, t :: ts => if p k t then some t else fnd p (k + 1) ts
theorem fnd_yes {p : Nat → Nat → Prop} {k : Nat} {l : List Nat} {t : Nat} (h : l[k]? = some t) (hp : p k t) : fnd p k (l.drop k) = some t := by
  obtain ⟨hk, rfl⟩ := List.getElem?_eq_some_iff.1 h
  rw [List.drop_eq_getElem_cons hk]
  unfold fnd
  rw [if_pos hp]
theorem fnd_no {p : Nat → Nat → Prop} {k : Nat} {l : List Nat} {t : Nat} (h : l[k]? = some t) (hp : ¬ p k t) : fnd p k (l.drop k) = fnd p (k + 1) (l.drop (k + 1)) := by
  obtain ⟨hk, rfl⟩ := List.getElem?_eq_some_iff.1 h
  rw [List.drop_eq_getElem_cons hk]
  conv => lhs; unfold fnd
  rw [if_neg hp]
theorem fnd_some {p : Nat → Nat → Prop} {l : List Nat} : ∀ (m k : Nat) {t : Nat}, m = l.length - k → fnd p k (l.drop k) = some t → ∃ j, k ≤ j ∧ l[j]? = some t ∧ p j t ∧ ∀ i x, k ≤ i → i < j → l[i]? = some x → ¬ p i x
  | m, k, t, hm, h => by
    by_cases hk : k < l.length
    · have hg : l[k]? = some l[k] := List.getElem?_eq_getElem hk
      by_cases hp : p k l[k]
      · rw [fnd_yes hg hp] at h
        injection h with h
        subst h
        exact ⟨k, Nat.le_refl _, hg, hp, fun i x h1 h2 => by omega⟩
      · rw [fnd_no hg hp] at h
        obtain ⟨j, h1, h2, h3, h4⟩ := fnd_some (m - 1) (k + 1) (by omega) h
        refine ⟨j, by omega, h2, h3, fun i x hi hj hx => ?_⟩
        by_cases e : i = k
        · subst e
          rw [hg] at hx
          injection hx with hx
          subst hx
          exact hp
        · exact h4 i x (by omega) hj hx
    · rw [List.drop_eq_nil_of_le (by omega)] at h
      unfold fnd at h
      cases h
  termination_by m => m
  decreasing_by omega
theorem fnd_ex {p : Nat → Nat → Prop} {l : List Nat} : ∀ (m k : Nat), m = l.length - k → (∃ j t, k ≤ j ∧ l[j]? = some t ∧ p j t) → ∃ t, fnd p k (l.drop k) = some t
  | m, k, hm, ⟨j, t, h1, h2, h3⟩ => by
    have hj := (List.getElem?_eq_some_iff.1 h2).1
    have hk : k < l.length := by omega
    have hg : l[k]? = some l[k] := List.getElem?_eq_getElem hk
    by_cases hp : p k l[k]
    · exact ⟨_, fnd_yes hg hp⟩
    · rw [fnd_no hg hp]
      refine fnd_ex (m - 1) (k + 1) (by omega) ⟨j, t, ?_, h2, h3⟩
      rcases Nat.lt_or_ge k j with h | h
      · exact h
      · obtain rfl : k = j := by omega
        rw [hg] at h2
        injection h2 with h2
        subst h2
        exact absurd h3 hp
  termination_by m => m
  decreasing_by omega
/-- A path that is begun: q, and o at its end. -/
structure GP (V : List Vo) (rule : Nat) (q : List Nat) (o : Nat) : Prop where
  nd : (q ++ [o]).Nodup
  lt : ∀ x ∈ q ++ [o], x < V.length
  ns : ∀ x ∈ q, spk V x = false
  r2 : rule = 2 → Rch V q o
  r1 : rule ≠ 2 → Rch V [] o ∧ ∀ x ∈ q, Dd V (cs rule) o < Dd V (cs rule) x
theorem GP.start {V : List Vo} {rule m : Nat} (hm : m < V.length) (h : Rch V [] m) : GP V rule [] m :=
  ⟨by simp, by simpa using hm, by simp, fun _ => h, fun _ => ⟨h, by simp⟩⟩
theorem GP.len {V : List Vo} {rule : Nat} {q : List Nat} {o : Nat} (h : GP V rule q o) : q.length + 1 ≤ V.length := by
  have := nodup_bd _ _ h.nd h.lt
  simpa using this
theorem GP.step {V : List Vo} (ok : VOk V) {rule : Nat} {q : List Nat} {o k t : Nat} (h : GP V rule q o) (hs : spk V o = false) (hk : (trs V o)[k]? = some t) (hp : okT V rule q o k t) : GP V rule (q ++ [o]) t := by
  have hk4 : k < 4 := by have := (List.getElem?_eq_some_iff.1 hk).1; have := ok.l4 o; omega
  have htl := ok.lt o t (List.mem_of_getElem? hk)
  unfold okT at hp
  have hns : ∀ x ∈ q ++ [o], spk V x = false := by
    intro x hx
    rcases List.mem_append.1 hx with hx | hx
    · exact h.ns x hx
    · rw [List.mem_singleton] at hx; subst hx; exact hs
  have hlt : ∀ x ∈ (q ++ [o]) ++ [t], x < V.length := by
    intro x hx
    rcases List.mem_append.1 hx with hx | hx
    · exact h.lt x hx
    · rw [List.mem_singleton] at hx; subst hx; exact htl
  by_cases hr : rule = 2
  · rw [if_pos hr] at hp
    exact ⟨nodup_snoc h.nd hp.out, hlt, hns, fun _ => hp, fun e => absurd hr e⟩
  · rw [if_neg hr] at hp
    have hc := cs_ok rule k hk4
    obtain ⟨h1, h2⟩ := h.r1 hr
    have hd : Dd V (cs rule) t < Dd V (cs rule) o := by omega
    have ha : ∀ x ∈ q ++ [o], Dd V (cs rule) t < Dd V (cs rule) x := by
      intro x hx
      rcases List.mem_append.1 hx with hx | hx
      · have := h2 x hx; omega
      · rw [List.mem_singleton] at hx; subst hx; exact hd
    have ht : Rch V [] t := by
      refine Classical.byContradiction fun hn => ?_
      rw [dd_none hn] at hd
      have h3 := (dd_short ok (cs_ok rule) _ o rfl (h.lt o (by simp)) h1).1
      have h4 := rk_bd (V := V) (c := cs rule) (h.lt o (by simp))
      have := ok.n12
      omega
    exact ⟨nodup_snoc h.nd (fun hm => by have := ha t hm; omega), hlt, hns, fun e => absurd e hr, fun _ => ⟨ht, ha⟩⟩
theorem GP.ex {V : List Vo} {rule : Nat} {q : List Nat} {o : Nat} (h : GP V rule q o) (hs : spk V o = false) : ∃ j t, 0 ≤ j ∧ (trs V o)[j]? = some t ∧ okT V rule q o j t := by
  unfold okT
  by_cases hr : rule = 2
  · rcases (h.r2 hr).push hs with h1 | ⟨t, ht, h1⟩
    · exact absurd (by simp) h1.out
    · obtain ⟨k, hk⟩ := List.mem_iff_getElem?.1 ht
      exact ⟨k, t, Nat.zero_le _, hk, by rw [if_pos hr]; exact h1⟩
  · obtain ⟨k, t, hk, _, he⟩ := dd_next (c := cs rule) (h.r1 hr).1 hs
    exact ⟨k, t, Nat.zero_le _, hk, by rw [if_neg hr]; exact he⟩
noncomputable def nxt (V : List Vo) (rule : Nat) (q : List Nat) (o : Nat) : Option Nat := fnd (okT V rule q o) 0 (trs V o)
theorem nxt_some {V : List Vo} {rule : Nat} {q : List Nat} {o t : Nat} (h : nxt V rule q o = some t) : ∃ j, (trs V o)[j]? = some t ∧ okT V rule q o j t ∧ ∀ i x, i < j → (trs V o)[i]? = some x → ¬ okT V rule q o i x := by
  obtain ⟨j, _, h2, h3, h4⟩ := fnd_some (l := trs V o) _ 0 rfl (by rw [List.drop_zero]; exact h)
  exact ⟨j, h2, h3, fun i x hi hx => h4 i x (Nat.zero_le _) hi hx⟩
theorem nxt_of {V : List Vo} {rule : Nat} {q : List Nat} {o j t : Nat} (h2 : (trs V o)[j]? = some t) (h3 : okT V rule q o j t) (h4 : ∀ i x, i < j → (trs V o)[i]? = some x → ¬ okT V rule q o i x) : nxt V rule q o = some t := by
  obtain ⟨t', ht'⟩ := fnd_ex (p := okT V rule q o) (l := trs V o) _ 0 rfl ⟨j, t, Nat.zero_le _, h2, h3⟩
  obtain ⟨j', _, k2, k3, k4⟩ := fnd_some (l := trs V o) _ 0 rfl ht'
  have e : j' = j := by
    rcases Nat.lt_trichotomy j j' with h | h | h
    · exact absurd h3 (k4 j t (Nat.zero_le _) h h2)
    · exact h.symm
    · exact absurd k3 (h4 j' t' h k2)
  subst e
  rw [h2] at k2
  injection k2 with k2
  subst k2
  rw [List.drop_zero] at ht'
  exact ht'
theorem GP.nxt {V : List Vo} {rule : Nat} {q : List Nat} {o : Nat} (h : GP V rule q o) (hs : spk V o = false) : ∃ t, nxt V rule q o = some t := by
  have := fnd_ex (p := okT V rule q o) (l := trs V o) _ 0 rfl (h.ex hs)
  rw [List.drop_zero] at this
  exact this
noncomputable def bpo (V : List Vo) (rule : Nat) : Nat → List Nat → Nat → List Nat
  | 0, q, o => q ++ [o]
  | f + 1, q, o => if spk V o = true then q ++ [o] else match nxt V rule q o with
    | some t => bpo V rule f (q ++ [o]) t
    | none => q ++ [o]
theorem bpo_stop {V : List Vo} {rule f : Nat} {q : List Nat} {o : Nat} (h : spk V o = true) : bpo V rule f q o = q ++ [o] := by
  cases f
  · rfl
  · unfold bpo; rw [if_pos h]
theorem bpo_next {V : List Vo} {rule f : Nat} {q : List Nat} {o t : Nat} (h : spk V o = false) (ht : nxt V rule q o = some t) : bpo V rule (f + 1) q o = bpo V rule f (q ++ [o]) t := by
  conv => lhs; unfold bpo
  rw [if_neg (by simp [h]), ht]
/-- Where the path ends. -/
theorem bpo_end {V : List Vo} (ok : VOk V) {rule : Nat} : ∀ (f : Nat) (q : List Nat) (o : Nat), GP V rule q o → V.length ≤ f + q.length + 1 →
    ∃ l o', bpo V rule f q o = q ++ (l ++ [o']) ∧ (l ++ [o'])[0]? = some o ∧ spk V o' = true ∧ GP V rule (q ++ l) o' ∧ bpo V rule (f + 1) q o = bpo V rule f q o := by
  intro f
  induction f with
  | zero =>
    intro q o h hf
    by_cases hs : spk V o = true
    · exact ⟨[], o, by rw [bpo_stop hs]; simp, rfl, hs, by simpa using h, by rw [bpo_stop hs, bpo_stop hs]⟩
    · have hs : spk V o = false := by simpa using hs
      obtain ⟨t, ht⟩ := h.nxt hs
      obtain ⟨j, h2, h3, _⟩ := nxt_some ht
      have := (h.step ok hs h2 h3).len
      simp at this
      omega
  | succ f ih =>
    intro q o h hf
    by_cases hs : spk V o = true
    · exact ⟨[], o, by rw [bpo_stop hs]; simp, rfl, hs, by simpa using h, by rw [bpo_stop hs, bpo_stop hs]⟩
    · have hs : spk V o = false := by simpa using hs
      obtain ⟨t, ht⟩ := h.nxt hs
      obtain ⟨j, h2, h3, _⟩ := nxt_some ht
      obtain ⟨l, o', e1, e2, e3, e4, e5⟩ := ih (q ++ [o]) t (h.step ok hs h2 h3) (by simp; omega)
      refine ⟨o :: l, o', by rw [bpo_next hs ht, e1]; simp, rfl, e3, by simpa using e4, ?_⟩
      rw [bpo_next hs ht, bpo_next hs ht, e5]
open Classical in
/-- The best path of a member; none if it is lost. -/
noncomputable def bpath (V : List Vo) (rule m : Nat) : List Nat := if Rch V [] m then bpo V rule V.length [] m else []
structure BP (V : List Vo) (rule m : Nat) (p : List Nat) : Prop where
  nd : p.Nodup
  lt : ∀ x ∈ p, x < V.length
  fst : p[0]? = some m
  ex : ∃ l o, p = l ++ [o] ∧ spk V o = true ∧ ∀ x ∈ l, spk V x = false
theorem bpath_yes {V : List Vo} (ok : VOk V) {rule m : Nat} (hm : m < V.length) (h : Rch V [] m) : BP V rule m (bpath V rule m) := by
  unfold bpath
  rw [if_pos h]
  obtain ⟨l, o', e1, e2, e3, e4, _⟩ := bpo_end ok (rule := rule) V.length [] m (GP.start hm h) (by omega)
  rw [e1]
  simp only [List.nil_append] at *
  exact ⟨e4.nd, e4.lt, e2, l, o', rfl, e3, e4.ns⟩
theorem bpath_no {V : List Vo} {rule m : Nat} (h : ¬ Rch V [] m) : bpath V rule m = [] := by unfold bpath; rw [if_neg h]
/-- By breadth and by sum the path does not hang on what lies behind. -/
theorem okT_near {V : List Vo} {rule : Nat} (hr : rule ≠ 2) (q q' : List Nat) (o k t : Nat) : okT V rule q o k t = okT V rule q' o k t := by
  unfold okT
  rw [if_neg hr, if_neg hr]
theorem nxt_near {V : List Vo} {rule : Nat} (hr : rule ≠ 2) (q q' : List Nat) (o : Nat) : nxt V rule q o = nxt V rule q' o := by
  unfold nxt
  rw [show okT V rule q o = okT V rule q' o from funext fun k => funext fun t => okT_near hr q q' o k t]
theorem bpo_near {V : List Vo} {rule : Nat} (hr : rule ≠ 2) : ∀ (f : Nat) (q : List Nat) (o : Nat), bpo V rule f q o = q ++ bpo V rule f [] o := by
  intro f
  induction f with
  | zero => intro q o; simp [bpo]
  | succ f ih =>
    intro q o
    by_cases hs : spk V o = true
    · rw [bpo_stop hs, bpo_stop hs]; simp
    · have hs : spk V o = false := by simpa using hs
      cases hn : nxt V rule q o with
      | none =>
        unfold bpo
        rw [if_neg (by simp [hs]), if_neg (by simp [hs]), nxt_near hr [] q o, hn]
        simp
      | some t =>
        rw [bpo_next hs hn, bpo_next hs (by rw [nxt_near hr [] q o]; exact hn), ih (q ++ [o]) t, ih ([] ++ [o]) t]
        simp
/-- FnConfluent, without a program. -/
theorem bpath_rest {V : List Vo} (ok : VOk V) {rule m : Nat} (hr : rule ≠ 2) (hm : m < V.length) (h : Rch V [] m) (hs : spk V m = false) :
    ∃ t, t < V.length ∧ Rch V [] t ∧ bpath V rule m = m :: bpath V rule t := by
  have hg := GP.start (rule := rule) hm h
  obtain ⟨t, ht⟩ := hg.nxt hs
  obtain ⟨j, h2, h3, _⟩ := nxt_some ht
  have hg2 := hg.step ok hs h2 h3
  have hrt := (hg2.r1 hr).1
  have htl := ok.lt m t (List.mem_of_getElem? h2)
  refine ⟨t, htl, hrt, ?_⟩
  have hn := ok.n1
  obtain ⟨f, hf⟩ : ∃ f, V.length = f + 1 := ⟨V.length - 1, by omega⟩
  have h5 := (bpo_end ok (rule := rule) f [] t (GP.start htl hrt) (by simp; omega))
  obtain ⟨_, _, _, _, _, _, h5⟩ := h5
  unfold bpath
  rw [if_pos h, if_pos hrt, hf, bpo_next hs ht, bpo_near hr f, h5]
  simp
end Go.Proofs.Ytefddohjnemdiaa
