/- append of records. (Taken out of XAsm.) -/
import Derived.Test.YtcoladhppbknnaaRec
import Derived.Test.YtcoladhppbknnaaApp
import Derived.Deep.AppendLies
import Derived.Deep.RegionHeld3
namespace Go.Proofs.Ytcoladhppbknnaa
set_option linter.unusedVariables false
open Go.RowKit
/-- append of records that are read. -/
theorem run_app_recsN {P : Program} (w : World) (ty t e : TypeId) (base : Nat) (i : TypeInfo) (z : Value) (s bytes : Nat) (ht : P.underlying t = some (.slice e)) (hi : P.info? e = some i) (hz : i.zero = some z)
    (hsize : i.size = s) (hby : i.bytes = bytes) (hzs : z.cells.size = s) (hsz : 0 < s)
    (A : Option Addr) (n c : Nat) (rs : List (List Value)) (hown : OwnR e s w base A n c rs)
    (B : Option Addr) (m d : Nat) (qs : List (List Value)) (hr : Recs s w B m d qs) (hql : ∀ r ∈ qs, r.length = s) (hr1 : ∀ r ∈ qs, ∀ u ∈ r, u.oneCell' = true)
    (h63 : n + m ≤ maxLen) (hbytes : (n + m) * bytes ≤ 140737488355328) (hbase : base ≤ w.heap.size) :
    ∃ A' c' w', (Builtin.append_ #[t, t] ty #[.slice A n c, .slice B m d]).run P w = .ok (.slice A' (n + m) c') w' ∧ OwnR e s w' base A' (n + m) c' (rs ++ qs) ∧ w.grownBy w' (Value.slice A n c).ownBlock ∧ NewBlk w (.slice A n c) (.slice A' (n + m) c') := by
  rcases B with _ | ad
  · have hm0 : m = 0 := by
      rcases Nat.eq_zero_or_pos m with h0 | h0
      · exact h0
      · obtain ⟨b, off, h, _⟩ := hr.2.2.2 h0
        cases h
    subst hm0
    have hq : qs = [] := List.eq_nil_of_length_eq_zero hr.1
    subst hq
    exact ⟨A, c, w, run_app_nil (P := P) w base t ty e i s ht hi (.slice A n c) n rs.flatten hown.1 d, by simpa using hown, World.grownBy.refl w _, .inl rfl⟩
  · have hcells : ∀ j u, qs.flatten[j]? = some u → w.cell? (ad.add j) = some u := by
      intro j u hu
      have hjl : j < m * s := by have := (List.getElem?_eq_some_iff.1 hu).1; rw [flat_len hql, hr.1] at this; exact this
      have hm : 0 < m := by
        rcases Nat.eq_zero_or_pos m with h0 | h0
        · subst h0; omega
        · exact h0
      obtain ⟨b, off, hA, _, hc⟩ := hr.2.2.2 hm
      simp only [Option.some.injEq] at hA
      subst hA
      have hd : j / s < m := Nat.div_lt_of_lt_mul (by rw [Nat.mul_comm]; exact hjl)
      have hq : qs[j / s]? = some (qs[j / s]'(by rw [hr.1]; exact hd)) := List.getElem?_eq_getElem _
      obtain ⟨r, hq'⟩ : ∃ r, qs[j / s]? = some r := ⟨_, hq⟩
      have hrl := hql r (List.mem_of_getElem? hq')
      have hms : j % s < s := Nat.mod_lt _ hsz
      obtain ⟨v, hv⟩ : ∃ v, r[j % s]? = some v := ⟨_, List.getElem?_eq_getElem (by omega)⟩
      have k1 := flat_at hql hq' hv
      rw [Nat.div_add_mod'] at k1
      rw [k1] at hu
      injection hu with hu
      subst hu
      have := hc _ _ _ _ hq' hv
      rw [Addr.add_lit, ← this]
      congr 2
      rw [Nat.add_assoc, Nat.div_add_mod']
    obtain ⟨v', w', hrun, h2, h3, _, h5⟩ := run_append_own_at (P := P) w base t ty e i z s bytes ht hi hz hsize hby hzs hsz _ n rs.flatten hown.1 ad m d qs.flatten (by rw [flat_len hql, hr.1]) hcells (by
      intro u hu
      obtain ⟨r, hr', hu'⟩ := List.mem_flatten.1 hu
      exact hr1 r hr' u hu') h63 hbytes hbase
    have e2 : ∃ A' c', v' = .slice A' (n + m) c' := by
      rcases h2.2 with ⟨rfl, h0⟩ | ⟨g, cap, cur, rfl, hr⟩
      · exact ⟨none, 0, by rw [h0]⟩
      · exact ⟨_, _, rfl⟩
    obtain ⟨A', c', rfl⟩ := e2
    refine ⟨A', c', w', hrun, ⟨by simpa using h2, by rw [List.length_append, hown.2.1, hr.1], fun q hq => ?_⟩, h3, ?_⟩
    rotate_left
    · rcases h5 with e | e
      · exact .inl e
      · exact .inr ⟨_, e, Nat.le_refl _⟩
    rcases List.mem_append.1 hq with hq | hq
    · exact hown.2.2 q hq
    · exact hql q hq
theorem run_app_recs {P : Program} (w : World) (ty t e : TypeId) (base : Nat) (i : TypeInfo) (z : Value) (s bytes : Nat) (ht : P.underlying t = some (.slice e)) (hi : P.info? e = some i) (hz : i.zero = some z)
    (hsize : i.size = s) (hby : i.bytes = bytes) (hzs : z.cells.size = s) (hsz : 0 < s)
    (A : Option Addr) (n c : Nat) (rs : List (List Value)) (hown : OwnR e s w base A n c rs)
    (B : Option Addr) (m d : Nat) (qs : List (List Value)) (hr : Recs s w B m d qs) (hql : ∀ r ∈ qs, r.length = s) (hr1 : ∀ r ∈ qs, ∀ u ∈ r, u.oneCell' = true)
    (h63 : n + m ≤ maxLen) (hbytes : (n + m) * bytes ≤ 140737488355328) (hbase : base ≤ w.heap.size) :
    ∃ A' c' w', (Builtin.append_ #[t, t] ty #[.slice A n c, .slice B m d]).run P w = .ok (.slice A' (n + m) c') w' ∧ OwnR e s w' base A' (n + m) c' (rs ++ qs) ∧ w.grownBy w' (Value.slice A n c).ownBlock := by
  obtain ⟨A', c', w', h1, h2, h3, _⟩ := run_app_recsN w ty t e base i z s bytes ht hi hz hsize hby hzs hsz A n c rs hown B m d qs hr hql hr1 h63 hbytes hbase
  exact ⟨A', c', w', h1, h2, h3⟩
theorem app_recs {P : Program} (w : World) {ops : Array Oper} {rest : List Oper} {o : Oper} {a : Act} {Q : Exit → Act → World → Prop} (hgd : o.guard = none) (sl x : Operand) (t e : TypeId)
    (ho : o.op = .call { callee := .builtin .append, args := #[sl, x], argTypes := #[t, t] })
    (A : Option Addr) (n : Nat) (c : Nat) (hs : a.eval sl = .slice A n c) (B : Option Addr) (m d : Nat) (hx : a.eval x = .slice B m d) {base s : Nat} {rs qs : List (List Value)}
    (hrun : ∃ A' c' w', (Builtin.append_ #[t, t] o.type #[.slice A n c, .slice B m d]).run P w = .ok (.slice A' (n + m) c') w' ∧ OwnR e s w' base A' (n + m) c' (rs ++ qs) ∧ w.grownBy w' (Value.slice A n c).ownBlock)
    (h : ∀ A' c' w1, OwnR e s w1 base A' (n + m) c' (rs ++ qs) → w.grownBy w1 (Value.slice A n c).ownBlock → wpList P ops Q rest (a.put o.dst (.slice A' (n + m) c')) w1) :
    wpList P ops Q (o :: rest) a w := by
  obtain ⟨A', c', w', hrun, h2, h3⟩ := hrun
  refine wpList_plain hgd fun _ hK => ?_
  unfold Oper.wp execOp
  simp only [ho, resolve, invoke, builtin, Sem.run_bind, Sem.run_pure, Result.andThen_ok, List.map_toArray, List.map_cons, List.map_nil, hs, hx, hrun]
  exact hK _ _ (h A' c' w' h2 h3)
theorem step_app_recs {P : Program} (w : World) {ops : Array Oper} {o : Oper} {a : Act} {K : Act → World → Prop} {Q : Exit → Act → World → Prop} {E : Prop} (hgd : o.guard = none) (sl x : Operand) (t e : TypeId)
    (ho : o.op = .call { callee := .builtin .append, args := #[sl, x], argTypes := #[t, t] })
    (A : Option Addr) (n : Nat) (c : Nat) (hs : a.eval sl = .slice A n c) (B : Option Addr) (m d : Nat) (hx : a.eval x = .slice B m d) {base s : Nat} {rs qs : List (List Value)}
    (hrun : ∃ A' c' w', (Builtin.append_ #[t, t] o.type #[.slice A n c, .slice B m d]).run P w = .ok (.slice A' (n + m) c') w' ∧ OwnR e s w' base A' (n + m) c' (rs ++ qs) ∧ w.grownBy w' (Value.slice A n c).ownBlock)
    (h : ∀ A' c' w1, OwnR e s w1 base A' (n + m) c' (rs ++ qs) → w.grownBy w1 (Value.slice A n c).ownBlock → K (a.put o.dst (.slice A' (n + m) c')) w1) :
    if Region.wanted o (yielded ops a.tmps) = true then Oper.wp P o a w K Q else E := by
  obtain ⟨A', c', w', hrun, h2, h3⟩ := hrun
  have hw : Region.wanted o (yielded ops a.tmps) = true := by simp [Region.wanted, hgd]
  rw [if_pos hw]
  unfold Oper.wp execOp
  simp only [ho, resolve, invoke, builtin, Sem.run_bind, Sem.run_pure, Result.andThen_ok, List.map_toArray, List.map_cons, List.map_nil, hs, hx, hrun]
  exact h A' c' w' h2 h3
end Go.Proofs.Ytcoladhppbknnaa
