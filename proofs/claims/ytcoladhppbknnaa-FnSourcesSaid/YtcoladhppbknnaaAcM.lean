/- The statute of a day: mathematics. -/
import Derived.Test.YtcoladhppbknnaaAc2
namespace Go.Proofs.Ytcoladhppbknnaa
set_option linter.unusedVariables false
set_option linter.unusedSimpArgs false
theorem next_pairwise {α : Type} {f : α → Int} : ∀ {l : List α}, (∀ (k : Nat) (a b : α), l[k]? = some a → l[k + 1]? = some b → f a < f b) → l.Pairwise (fun a b => f a < f b)
  | [], _ => List.Pairwise.nil
  | [a], _ => List.pairwise_singleton _ _
  | a :: b :: l, h => by
    have ih := next_pairwise (l := b :: l) (fun k x y hx hy => h (k + 1) x y (by simpa using hx) (by simpa using hy))
    refine List.Pairwise.cons (fun x hx => ?_) ih
    have hab : f a < f b := h 0 a b rfl rfl
    rcases List.mem_cons.1 hx with rfl | hx
    · exact hab
    · exact Int.lt_trans hab (List.rel_of_pairwise_cons ih hx)
theorem pok_of {p : List Ed} (h : patB p = true) : POk p ∧ p.length ≤ 16 := by
  unfold patB at h
  rw [Bool.and_eq_true] at h
  obtain ⟨h1, h2⟩ := h
  have key : ∀ (k : Nat) (e : Ed), p[k]? = some e → inR e.id 1 99 = true ∧ edB e = true ∧ (k = 0 ∨ (p.getD (k - 1) dEd).id < e.id) := by
    intro k e he
    have hk : k < p.length := (List.getElem?_eq_some_iff.1 he).1
    have := List.all_eq_true.1 h1 k (List.mem_range.2 hk)
    unfold patK at this
    rw [getD_ed he, Bool.and_eq_true, Bool.and_eq_true, Bool.or_eq_true] at this
    refine ⟨this.1.1, this.1.2, ?_⟩
    rcases this.2 with h | h
    · exact .inl (of_decide_eq_true h)
    · exact .inr (of_decide_eq_true h)
  refine ⟨⟨next_pairwise fun k a b ha hb => ?_, fun e he => ?_, fun e he => ?_⟩, of_decide_eq_true h2⟩
  · rcases (key (k + 1) b hb).2.2 with h | h
    · omega
    · rw [Nat.add_sub_cancel, getD_ed ha] at h
      exact h
  · obtain ⟨k, hk, rfl⟩ := List.getElem_of_mem he
    exact (key k _ (List.getElem?_eq_getElem hk)).2.1
  · obtain ⟨k, hk, rfl⟩ := List.getElem_of_mem he
    have := (key k _ (List.getElem?_eq_getElem hk)).1
    unfold inR at this
    simpa using this
/-- Acts whose patches are patches. -/
structure AcV (es : List Ac) : Prop where
  ok : ∀ a ∈ es, POk a.p ∧ a.p.length ≤ 16
  len : es.length ≤ 8
theorem acV_of {es : List Ac} (h : acB es = true) : AcV es := by
  unfold acB at h
  rw [Bool.and_eq_true] at h
  refine ⟨fun a ha => ?_, of_decide_eq_true h.2⟩
  obtain ⟨k, hk, rfl⟩ := List.getElem_of_mem ha
  have := List.all_eq_true.1 h.1 k (List.mem_range.2 hk)
  rw [acK_at (List.getElem?_eq_getElem hk)] at this
  simp only [Bool.and_eq_true] at this
  exact pok_of this.1.2
theorem AcV.getD {es : List Ac} (h : AcV es) (i : Nat) : POk (es.getD i dAc).p ∧ (es.getD i dAc).p.length ≤ 16 := by
  rw [List.getD_eq_getElem?_getD]
  cases he : es[i]? with
  | none => exact ⟨⟨List.Pairwise.nil, by simp [dAc], by simp [dAc]⟩, by simp [dAc]⟩
  | some a => exact h.ok a (List.mem_of_getElem? he)
open Classical in
noncomputable def stepT (s : List Ar) (p : List Ed) : Option (List Ar) := if Fit s p ∧ (apps s p).length ≤ 8 then some (apps s p) else none
theorem stepT_yes {s : List Ar} {p : List Ed} (h : Fit s p) (hl : (apps s p).length ≤ 8) : stepT s p = some (apps s p) := by unfold stepT; rw [if_pos ⟨h, hl⟩]
theorem stepT_no {s : List Ar} {p : List Ed} (h : ¬ (Fit s p ∧ (apps s p).length ≤ 8)) : stepT s p = none := by unfold stepT; rw [if_neg h]
theorem stepT_some {s t : List Ar} {p : List Ed} (h : stepT s p = some t) : Fit s p ∧ (apps s p).length ≤ 8 ∧ t = apps s p := by
  unfold stepT at h
  split at h
  · rename_i hh
    injection h with h
    exact ⟨hh.1, hh.2, h.symm⟩
  · cases h
/-- The statute after the acts of a list. -/
noncomputable def txt (es : List Ac) (base : List Ar) (l : List Nat) : Option (List Ar) := l.foldl (fun o i => o.bind fun s => stepT s (es.getD i dAc).p) (some base)
def srcI (es : List Ac) (id : Int) (l : List Nat) : Int := l.foldl (fun o i => if (edo (es.getD i dAc).p id).isSome then (i : Int) else o) (-1)
theorem txt_nil (es : List Ac) (base : List Ar) : txt es base [] = some base := rfl
theorem txt_snoc (es : List Ac) (base : List Ar) (l : List Nat) (i : Nat) : txt es base (l ++ [i]) = (txt es base l).bind fun s => stepT s (es.getD i dAc).p := by
  unfold txt
  rw [List.foldl_append]
  rfl
theorem srcI_snoc (es : List Ac) (id : Int) (l : List Nat) (i : Nat) : srcI es id (l ++ [i]) = if (edo (es.getD i dAc).p id).isSome then (i : Int) else srcI es id l := by
  unfold srcI
  rw [List.foldl_append]
  rfl
theorem txt_none {es : List Ac} {base : List Ar} {l : List Nat} {k : Nat} (h : txt es base (l.take k) = none) : txt es base l = none := by
  have key : ∀ m : List Nat, m.foldl (fun (o : Option (List Ar)) i => o.bind fun s => stepT s (es.getD i dAc).p) none = none := by
    intro m
    induction m with
    | nil => rfl
    | cons a m ih => exact ih
  rw [← List.take_append_drop k l]
  unfold txt at h ⊢
  rw [List.foldl_append, h]
  exact key _
theorem srcI_snoc' {es : List Ac} {id : Int} {l : List Nat} {k i : Nat} (h : l[k]? = some i) : srcI es id (l.take (k + 1)) = if (edo (es.getD i dAc).p id).isSome then (i : Int) else srcI es id (l.take k) := by
  rw [take_snoc' h, srcI_snoc]
theorem txt_snoc' {es : List Ac} {base s : List Ar} {l : List Nat} {k i : Nat} (h : l[k]? = some i) (hs : txt es base (l.take k) = some s) : txt es base (l.take (k + 1)) = stepT s (es.getD i dAc).p := by
  rw [take_snoc' h, txt_snoc, hs]
  rfl
/-- Whence a text comes. -/
theorem txt_ok {es : List Ac} {base : List Ar} (hv : AcV es) (hb : SOk base) (h8 : base.length ≤ 8) : ∀ (r : List Nat) (s : List Ar), txt es base r.reverse = some s →
    SOk s ∧ s.length ≤ 8 ∧ ∀ id, (srcI es id r.reverse = -1 ∧ fnd s id = fnd base id) ∨ ∃ i ∈ r.reverse, srcI es id r.reverse = (i : Int) ∧ ∃ e, edo (es.getD i dAc).p id = some e ∧ fnd s id = e.new := by
  intro r
  induction r with
  | nil =>
    intro s h
    injection h with h
    subst h
    exact ⟨hb, h8, fun id => .inl ⟨rfl, rfl⟩⟩
  | cons i r ih =>
    intro s h
    rw [List.reverse_cons, txt_snoc] at h
    cases ht : txt es base r.reverse with
    | none => rw [ht] at h; cases h
    | some t =>
      rw [ht] at h
      obtain ⟨a1, a2, a3⟩ := ih t ht
      obtain ⟨f1, f2, rfl⟩ := stepT_some h
      obtain ⟨b1, b2⟩ := apps_ok a1 (hv.getD i).1 f1
      refine ⟨b1, f2, fun id => ?_⟩
      rw [List.reverse_cons, srcI_snoc, b2]
      cases he : edo (es.getD i dAc).p id with
      | some e => exact .inr ⟨i, by simp, by rw [Option.isSome_some, if_pos rfl], e, he, by rw [nw_yes he]⟩
      | none =>
        rw [nw_no he, Option.isSome_none, if_neg (by simp)]
        rcases a3 id with h | ⟨j, hj, h⟩
        · exact .inl h
        · exact .inr ⟨j, List.mem_append_left _ hj, h⟩
theorem txt_src {es : List Ac} {base s : List Ar} {l : List Nat} (hv : AcV es) (hb : SOk base) (h8 : base.length ≤ 8) (h : txt es base l = some s) :
    SOk s ∧ s.length ≤ 8 ∧ ∀ id, (srcI es id l = -1 ∧ fnd s id = fnd base id) ∨ ∃ i ∈ l, srcI es id l = (i : Int) ∧ ∃ e, edo (es.getD i dAc).p id = some e ∧ fnd s id = e.new := by
  have := txt_ok hv hb h8 l.reverse s (by rw [List.reverse_reverse]; exact h)
  rw [List.reverse_reverse] at this
  exact this
theorem txt_out {es : List Ac} {base s : List Ar} {l : List Nat} (hv : AcV es) (hb : SOk base) (h8 : base.length ≤ 8) (h : txt es base l = some s) {id : Int} (h1 : fnd base id = ByteArray.empty) (h2 : ∀ a ∈ es, ∀ e ∈ a.p, e.id ≠ id) : fnd s id = ByteArray.empty := by
  rcases (txt_src hv hb h8 h).2.2 id with ⟨_, e⟩ | ⟨i, hi, _, e, he, _⟩
  · rw [e, h1]
  · exfalso
    obtain ⟨m1, m2⟩ := edo_some he
    rw [List.getD_eq_getElem?_getD] at m1
    cases hh : es[i]? with
    | none => rw [hh] at m1; simp [dAc] at m1
    | some a => rw [hh] at m1; exact h2 a (List.mem_of_getElem? hh) e m1 m2
/-- The index of an article in a statute. -/
theorem idx_fnd {s : List Ar} (hs : SOk s) (id : Int) : idxI s (fun a => a.id == id) < 0 ↔ fnd s id = ByteArray.empty := by
  constructor
  · intro h
    refine fnd_none fun a ha e => ?_
    unfold idxI at h
    rw [if_pos (List.any_eq_true.2 ⟨a, ha, by simp [e]⟩)] at h
    omega
  · intro h
    unfold idxI
    rw [if_neg]
    · omega
    · intro hh
      obtain ⟨a, ha, e⟩ := List.any_eq_true.1 hh
      have e : a.id = id := by simpa using e
      rw [← e, fnd_mem hs.srt ha] at h
      exact senB_ne (hs.txt a ha) h
end Go.Proofs.Ytcoladhppbknnaa
