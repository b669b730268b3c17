/- A drawn region in two phases: what the first phase reads may be written in the second. 'R i w': what is known behind operation number i. -/
import Derived.Deep.RegionHeld3
import Derived.Test.YteehbnanjgmliaaDoorBase
namespace Go.Proofs.YteehbnanjgmliaaDoor
set_option linter.unusedVariables false
open Go.RowKit
section
variable {P : Program} {ops : Array Oper} {Q : Exit → Act → World → Prop} {md : Region.Mode} {R : Nat → World → Prop} {S : World → Prop}
def anyR (P : Program) (md : Region.Mode) (ops : Array Oper) (Q : Exit → Act → World → Prop) (R : Nat → World → Prop) : Nat → Array Bool → Act → World → Prop
  | 0, l, a, w => Region.ready md ops l = [] ∧ Q .normal a w
  | k + 1, l, a, w => (Region.ready md ops l = [] → Q .normal a w) ∧ ∀ i ∈ Region.ready md ops l, wpOp P ops Q i (fun a' w' => R i w' ∧ anyR P md ops Q R k (l.setIfInBounds i true) a' w') a w
theorem anyR_any : ∀ (k : Nat) (l : Array Bool) (a : Act) (w : World), anyR P md ops Q R k l a w → wpAny P md ops Q k l a w
  | 0, _, _, _, h => h
  | k + 1, l, a, w, h => ⟨h.1, fun i hi => wpOp_mono (fun a' w' x => anyR_any k _ a' w' x.2) (h.2 i hi)⟩
/-- Number i may be taken first; D: what waits for it by way of others. -/
theorem anyR_first {i : Nat} {oi : Oper} {v : Value} (D : List Nat) (hi : ops[i]? = some oi) (hsel : ∀ (j : Nat) (o : Oper) cs b, ops[j]? = some o → o.op ≠ .select cs b)
    (hQ : ∀ c a w, Q (.panic c) (a.put oi.dst v) w → Q (.panic c) a w) (hRS : ∀ w, S w → R i w)
    (hD : ∀ d ∈ D, ∀ od, ops[d]? = some od → ∃ e ∈ od.after, Region.binds md e = true ∧ (e.on = i ∨ e.on ∈ D))
    (hlate : ∀ (j : Nat) (oj : Oper) (w : World), ops[j]? = some oj → (∀ e ∈ oj.after, Region.binds md e = true → e.on ≠ i ∧ e.on ∉ D) → R j w → S w) :
    ∀ (k : Nat) (l : Array Bool) (a : Act) (w : World),
      (∀ j oj, ops[j]? = some oj → j ≠ i → l.getD j true = false → (∀ e ∈ oj.after, Region.binds md e = true → e.on ≠ i) → oi.apart ops oj = true) →
      (∀ d ∈ D, l.getD d true = false) →
      i ∈ Region.ready md ops l → YieldsIf P ops S oi v a → S w →
      anyR P md ops Q R k (l.setIfInBounds i true) (a.put oi.dst v) w → anyR P md ops Q R (k + 1) l a w := by
  intro k
  induction k with
  | zero =>
    intro l a w _ _ hr hy hS H
    refine ⟨fun h0 => absurd hr (by rw [h0]; simp), fun j hj => ?_⟩
    rcases Nat.decEq j i with hne | rfl
    · have h0 := ready_mono hj hne
      rw [H.1] at h0
      simp at h0
    · exact hy.wpOp hi hS ⟨hRS _ hS, H⟩
  | succ k ih =>
    intro l a w hap hDl hr hy hS H
    refine ⟨fun h0 => absurd hr (by rw [h0]; simp), fun j hj => ?_⟩
    rcases Nat.decEq j i with hne | rfl
    · obtain ⟨hl, oj, ho, hw⟩ := mem_ready.1 hj
      have hil := (mem_ready.1 hr).1
      have un : ∀ q, l.getD q true = false → l.getD q false = true → False := fun q h1 h2 => by
        by_cases hlt : q < l.size
        · simp [hlt] at h1 h2
          simp [h1] at h2
        · simp [hlt] at h2
      have hno : ∀ e ∈ oj.after, Region.binds md e = true → e.on ≠ i := fun e he hb hei => un i hil (hei ▸ hw e he hb)
      have hnd : ∀ e ∈ oj.after, Region.binds md e = true → e.on ∉ D := fun e he hb hed => un e.on (hDl _ hed) (hw e he hb)
      have hjD : j ∉ D := fun hjd => by
        obtain ⟨e, he, hb, h1⟩ := hD j hjd oj ho
        rcases h1 with h1 | h1
        · exact hno e he hb h1
        · exact hnd e he hb h1
      have h2 := wpOp_putIf ho (hap j oj ho hne hl hno) (fun cs b => hsel i oi cs b hi) (fun cs b => hsel j oj cs b ho) hQ hy (H.2 j (ready_mono hj hne))
      refine wpOp_mono (fun a' w' x => ?_) h2
      obtain ⟨x1, x2, x3⟩ := x
      refine ⟨x2, ih _ a' w' (fun q oq hq hqi hun hqn => ?_) (fun d hd => ?_) (ready_mono hr (Ne.symm hne)) x1 (hlate j oj w' ho (fun e he hb => ⟨hno e he hb, hnd e he hb⟩) x2) ?_⟩
      · by_cases hjq : j = q
        · exact hap q oq hq hqi (hjq ▸ hl) hqn
        · rw [getD_set_ne true hjq] at hun
          exact hap q oq hq hqi hun hqn
      · rw [getD_set_ne true (fun e : j = d => hjD (by rw [e]; exact hd))]
        exact hDl d hd
      · rw [Array.setIfInBounds_comm _ _ hne]
        exact x3
    · exact hy.wpOp hi hS ⟨hRS _ hS, H⟩
/-- S is known behind the operations of the first phase. -/
def inFirst (S : World → Prop) (p : Nat) (j : Nat) (w : World) : Prop := j < p → S w
def waits (md : Region.Mode) (ops : Array Oper) (p i : Nat) (D : List Nat) : Bool :=
  (D.all fun d => ((ops[d]?).map fun o => o.after.any fun e => Region.binds md e && (e.on == i || D.contains e.on)).getD true) &&
  (List.range ops.size).all fun j => decide (j < p) || ((ops[j]?).map fun o => o.after.any fun e => Region.binds md e && (e.on == i || D.contains e.on)).getD true
theorem waits_spec {p i : Nat} {D : List Nat} (h : waits md ops p i D = true) (j : Nat) (oj : Oper) (w : World) (hj : ops[j]? = some oj) (hno : ∀ e ∈ oj.after, Region.binds md e = true → e.on ≠ i ∧ e.on ∉ D) (hR : inFirst S p j w) : S w := by
  unfold waits at h
  rw [Bool.and_eq_true] at h
  have h1 := List.all_eq_true.1 h.2 j (List.mem_range.2 (Array.getElem?_eq_some_iff.1 hj).1)
  rw [hj] at h1
  simp only [Option.map_some, Option.getD_some, Bool.or_eq_true, decide_eq_true_eq] at h1
  rcases h1 with h1 | h1
  · exact hR h1
  · obtain ⟨e, he, hb⟩ := Array.any_eq_true'.1 h1
    simp only [Bool.and_eq_true, Bool.or_eq_true, beq_iff_eq, List.contains_iff_mem] at hb
    have := hno e he hb.1
    exact absurd hb.2 (by simp [this.1, this.2])
theorem waits_D {p i : Nat} {D : List Nat} (h : waits md ops p i D = true) : ∀ d ∈ D, ∀ od, ops[d]? = some od → ∃ e ∈ od.after, Region.binds md e = true ∧ (e.on = i ∨ e.on ∈ D) := by
  intro d hd od hod
  unfold waits at h
  rw [Bool.and_eq_true] at h
  have h1 := List.all_eq_true.1 h.1 d hd
  rw [hod] at h1
  simp only [Option.map_some, Option.getD_some] at h1
  obtain ⟨e, he, hb⟩ := Array.any_eq_true'.1 h1
  simp only [Bool.and_eq_true, Bool.or_eq_true, beq_iff_eq, List.contains_iff_mem] at hb
  exact ⟨e, he, hb⟩
/-- Taken first: number i, where all but the first p operations wait for it, by D. -/
theorem anyR_takeD {p i : Nat} {oi : Oper} (D : List Nat) (v : Value) {k : Nat} {l : Array Bool} {a : Act} {w : World} (hi : ops[i]? = some oi)
    (hs : Region.noSelect ops = true) (hf : Region.free md ops l i = true) (hr : (Region.ready md ops l).contains i = true) (hw : waits md ops p i D = true) (hd : (D.all fun d => !l.getD d true) = true)
    (hQ : ∀ c a w, Q (.panic c) (a.put oi.dst v) w → Q (.panic c) a w) (hS : S w) (hy : Region.wanted oi (yielded ops a.tmps) = true ∧ ∀ w, S w → (execOp a.eval oi).run P w = .ok (.value v) w)
    (h : anyR P md ops Q (inFirst S p) k (l.setIfInBounds i true) (a.put oi.dst v) w) : anyR P md ops Q (inFirst S p) (k + 1) l a w :=
  anyR_first (S := S) D hi (Region.noSelect_spec hs) hQ (fun _ x _ => x) (waits_D hw) (fun j oj w' h1 h2 h3 => waits_spec hw j oj w' h1 h2 h3) k l a w (Region.free_spec hi hf) (fun d hm => by simpa using List.all_eq_true.1 hd d hm) (by simpa using hr) (Or.inl hy) hS h
theorem anyR_take {p i : Nat} {oi : Oper} (v : Value) {k : Nat} {l : Array Bool} {a : Act} {w : World} (hi : ops[i]? = some oi)
    (hs : Region.noSelect ops = true) (hf : Region.free md ops l i = true) (hr : (Region.ready md ops l).contains i = true) (hw : waits md ops p i [] = true)
    (hQ : ∀ c a w, Q (.panic c) (a.put oi.dst v) w → Q (.panic c) a w) (hS : S w) (hy : Region.wanted oi (yielded ops a.tmps) = true ∧ ∀ w, S w → (execOp a.eval oi).run P w = .ok (.value v) w)
    (h : anyR P md ops Q (inFirst S p) k (l.setIfInBounds i true) (a.put oi.dst v) w) : anyR P md ops Q (inFirst S p) (k + 1) l a w :=
  anyR_takeD [] v hi hs hf hr hw rfl hQ hS hy h
/-- One operation alone may come up. -/
theorem anyR_one {i : Nat} {o : Oper} {k : Nat} {l : Array Bool} {a : Act} {w : World} (hr : Region.ready md ops l = [i]) (ho : ops[i]? = some o)
    (h : ∀ K : Act → World → Prop, Shut (∀ a w, R i w → anyR P md ops Q R k (l.setIfInBounds i true) a w → K a w) → if Region.wanted o (yielded ops a.tmps) = true then Oper.wp P o a w K Q else K (a.put o.dst undef) w) :
    anyR P md ops Q R (k + 1) l a w :=
  ⟨fun h0 => absurd h0 (by rw [hr]; simp), fun j hj => by
    rw [hr] at hj
    obtain rfl := List.mem_singleton.1 hj
    exact wpOp_step ho fun K hK => h K fun a w h1 h2 => hK a w ⟨h1, h2⟩⟩
/-- One of two may come up. -/
theorem anyR_two {i j : Nat} {o q : Oper} {k : Nat} {l : Array Bool} {a : Act} {w : World} (hr : Region.ready md ops l = [i, j]) (ho : ops[i]? = some o) (hq : ops[j]? = some q)
    (h : ∀ K : Act → World → Prop, Shut (∀ a w, R i w → anyR P md ops Q R k (l.setIfInBounds i true) a w → K a w) → if Region.wanted o (yielded ops a.tmps) = true then Oper.wp P o a w K Q else K (a.put o.dst undef) w)
    (h' : ∀ K : Act → World → Prop, Shut (∀ a w, R j w → anyR P md ops Q R k (l.setIfInBounds j true) a w → K a w) → if Region.wanted q (yielded ops a.tmps) = true then Oper.wp P q a w K Q else K (a.put q.dst undef) w) :
    anyR P md ops Q R (k + 1) l a w :=
  ⟨fun h0 => absurd h0 (by rw [hr]; simp), fun x hx => by
    rw [hr] at hx
    rcases List.mem_cons.1 hx with rfl | hx
    · exact wpOp_step ho fun K hK => h K fun a w h1 h2 => hK a w ⟨h1, h2⟩
    · obtain rfl := List.mem_singleton.1 hx
      exact wpOp_step hq fun K hK => h' K fun a w h1 h2 => hK a w ⟨h1, h2⟩⟩
theorem anyR_done {l : Array Bool} {a : Act} {w : World} (hr : Region.ready md ops l = []) (h : Q .normal a w) : ∀ k, anyR P md ops Q R k l a w
  | 0 => ⟨hr, h⟩
  | _ + 1 => ⟨fun _ => h, by rw [hr]; simp⟩
theorem wp_region_R {id : Nat} {a : Act} {w : World} (R : Nat → World → Prop) (hm : P.follows .mixedOrders = true) (h : anyR P .any ops Q R ops.size (Array.replicate ops.size false) a w.drew) : (Code.region id ops true).wp P Q a w :=
  wp_region_any hm (anyR_any _ _ _ _ h)
end
end Go.Proofs.YteehbnanjgmliaaDoor
