/- The reference's sets as lists in ascending order. -/
import Derived.Test.YteejfjgofpolkaaCmp
import Derived.Test.YteejfjgofpolkaaApp
import Derived.Deep.QuietTactic
import Derived.BigQuiet
namespace Go.Proofs.Yteejfjgofpolkaa
set_option linter.unusedVariables false
set_option linter.unusedSimpArgs false
set_option maxRecDepth 100000
open Go.RowKit Go.Deep
/-- Rows of the call's own, each with its slice value. -/
def MP (w : World) (base : Nat) (ps : List (Value × List Int)) : Prop := (∀ p ∈ ps, ∃ A' c', p.1 = .slice A' p.2.length c' ∧ OwnI w base A' p.2.length c' p.2) ∧ ps.Pairwise fun p q => Apart p.1 q.1
theorem MP.below {w w' : World} {base : Nat} {ps : List (Value × List Int)} (h : MP w base ps) (hb : Below w.heap.size w w') : MP w' base ps :=
  ⟨fun p hp => by obtain ⟨A, c, e, o⟩ := h.1 p hp; exact ⟨A, c, e, o.below hb⟩, h.2⟩
theorem MP.perm {w : World} {base : Nat} {ps qs : List (Value × List Int)} (h : MP w base ps) (hp : ps.Perm qs) : MP w base qs :=
  ⟨fun p hq => h.1 p (hp.symm.subset hq), (List.Perm.pairwise_iff (fun {p q} (a : Apart p.1 q.1) => a.symm) hp).1 h.2⟩
theorem MP.blocks {w : World} {base : Nat} {ps : List (Value × List Int)} (h : MP w base ps) : ∀ p ∈ ps, ∀ g, p.1.ownBlock = some g → base ≤ g ∧ g < w.heap.size := fun p hp g hg => by
  obtain ⟨A, c, e, o⟩ := h.1 p hp
  rw [e] at hg
  exact o.block g hg
theorem MP.grown {w w' : World} {base b2 n : Nat} {v : Value} {us : List Value} {ps : List (Value × List Int)} (h : MP w base ps) (o : w.ownsRow b2 28 1 v n us) (hg : w.grownBy w' v.ownBlock) : MP w' base ps :=
  ⟨fun p hp => by obtain ⟨A, c, e, q⟩ := h.1 p hp; exact ⟨A, c, e, q.kept hg (own_ne q.1 o (by decide))⟩, h.2⟩
structure OwnP (w : World) (base : Nat) (A : Option Addr) (n c : Nat) (ps : List (Value × List Int)) : Prop where
  outer : w.ownsRow base 28 1 (.slice A n c) n (ps.map Prod.fst)
  rows : MP w base ps
theorem OwnP.len {w : World} {base : Nat} {A : Option Addr} {n c : Nat} {ps : List (Value × List Int)} (h : OwnP w base A n c ps) : ps.length = n := by have := h.outer.1; simpa using this
theorem OwnP.below {w w' : World} {base : Nat} {A : Option Addr} {n c : Nat} {ps : List (Value × List Int)} (h : OwnP w base A n c ps) (hb : Below w.heap.size w w') : OwnP w' base A n c ps :=
  ⟨h.outer.kept (row := none) ⟨hb.os, hb.tape, hb.output, hb.size, fun k hk _ => hb.block k hk⟩ (by cases (Value.slice A n c).ownBlock <;> simp), h.rows.below hb⟩
theorem OwnP.toM {w : World} {base : Nat} {A : Option Addr} {n c : Nat} {ps : List (Value × List Int)} (h : OwnP w base A n c ps) : OwnM w base A n c (ps.map Prod.fst) (ps.map Prod.snd) := by
  refine ⟨h.outer, by rw [List.length_map]; exact h.len, fun j zs hz => ?_, List.pairwise_map.2 h.rows.2⟩
  rw [List.getElem?_map] at hz
  obtain ⟨p, hp, rfl⟩ := Option.map_eq_some_iff.1 hz
  obtain ⟨A', c', e, o⟩ := h.rows.1 p (List.mem_of_getElem? hp)
  exact ⟨A', c', by rw [List.getElem?_map, hp, ← e]; rfl, o⟩
theorem OwnP.ofM {w : World} {base : Nat} {A : Option Addr} {n c : Nat} {vs : List Value} {zss : List (List Int)} (h : OwnM w base A n c vs zss) : OwnP w base A n c (vs.zip zss) := by
  have l1 := h.vlen
  have l2 := h.len
  have e1 : (vs.zip zss).map Prod.fst = vs := List.map_fst_zip (by omega)
  refine ⟨by rw [e1]; exact h.outer, fun p hp => ?_, ?_⟩
  · obtain ⟨j, hj, rfl⟩ := List.mem_iff_getElem.1 hp
    have hj2 : j < zss.length := by rw [List.length_zip] at hj; omega
    obtain ⟨A', c', hv, o⟩ := h.row j _ (List.getElem?_eq_getElem hj2)
    rw [List.getElem_zip]
    refine ⟨A', c', ?_, o⟩
    have := (List.getElem?_eq_some_iff.1 hv).2
    exact this
  · have := h.apart
    rw [← e1] at this
    exact List.pairwise_map.1 this
theorem zip_snd {vs : List Value} {zss : List (List Int)} (h : vs.length = zss.length) : (vs.zip zss).map Prod.snd = zss := List.map_snd_zip (by omega)
theorem run_app_outer (w : World) (ty : TypeId) (base : Nat) (A : Option Addr) (n c : Nat) (us : List Value) (hown : w.ownsRow base 28 1 (.slice A n c) n us) (ad : Addr) (m d : Nat) (vs : List Value) (hl : vs.length = m)
    (hcells : ∀ j u, vs[j]? = some u → w.cell? (ad.add j) = some u) (h1 : ∀ u ∈ vs, u.oneCell' = true) (hn : n ≤ 1048576) (hm : m ≤ 1048576) (hbase : base ≤ w.heap.size) :
    ∃ A' c' w', (Builtin.append_ #[24, 24] ty #[.slice A n c, .slice (some ad) m d]).run Try.prog w = .ok (.slice A' (n + m) c') w' ∧ w'.ownsRow base 28 1 (.slice A' (n + m) c') (n + m) (us ++ vs) ∧ w.grownBy w' (Value.slice A n c).ownBlock := by
  obtain ⟨i0, hi, hz0, hz1, hz2⟩ := info_parts info_row
  obtain ⟨v', w', hrun, h2, h3, _, h5⟩ := run_append_own_at (P := Try.prog) w base 24 ty 28 i0 (.slice none 0 0) 1 24 Try.underlying24 hi hz0 hz1 hz2 rfl (by decide) _ n us hown ad m d vs (by omega) hcells h1 (by unfold maxLen; omega) (by omega) hbase
  obtain ⟨A', c', rfl⟩ := own_slice h2
  exact ⟨A', c', w', hrun, h2, h3⟩
theorem app_outer {ops : Array Oper} {rest : List Oper} {o : Oper} {a : Act} {Q : Exit → Act → World → Prop} (w : World) (hgd : o.guard = none) (s x : Operand)
    (ho : o.op = .call { callee := .builtin .append, args := #[s, x], argTypes := #[24, 24] }) (base : Nat)
    (A : Option Addr) (n c : Nat) (us : List Value) (hs : a.eval s = .slice A n c) (hown : w.ownsRow base 28 1 (.slice A n c) n us) (ad : Addr) (m d : Nat) (vs : List Value) (hx : a.eval x = .slice (some ad) m d) (hl : vs.length = m)
    (hcells : ∀ j u, vs[j]? = some u → w.cell? (ad.add j) = some u) (h1 : ∀ u ∈ vs, u.oneCell' = true) (hn : n ≤ 1048576) (hm : m ≤ 1048576) (hbase : base ≤ w.heap.size)
    (h : ∀ A' c' w1, w1.ownsRow base 28 1 (.slice A' (n + m) c') (n + m) (us ++ vs) → w.grownBy w1 (Value.slice A n c).ownBlock → wpList Try.prog ops Q rest (a.put o.dst (.slice A' (n + m) c')) w1) :
    wpList Try.prog ops Q (o :: rest) a w := by
  refine wpList_plain hgd fun _ hK => ?_
  obtain ⟨A', c', w', hrun, h2, h3⟩ := run_app_outer w o.type base A n c us hown ad m d vs hl hcells h1 hn hm hbase
  unfold Oper.wp execOp
  simp only [ho, resolve, invoke, builtin, Sem.run_bind, Sem.run_pure, Result.andThen_ok, List.map_toArray, List.map_cons, List.map_nil, hs, hx, hrun]
  exact hK _ _ (h A' c' w' h2 h3)
theorem outer_lit (w : World) : (w.alloc (.cells #[] 28)).ownsRow w.heap.size 28 1 (.slice (some ⟨w.heap.size, 0, none⟩) 0 0) 0 [] := by
  simpa using World.ownsRow_lit (base := w.heap.size) (e := 28) (size := 1) w #[] 0 (Nat.le_refl _) (by unfold maxLen; omega) rfl
theorem asc_put {zs : List (List Int)} {z : List Int} {k : Nat} (h : Asc zs) (hk : k ≤ zs.length) (h1 : ∀ j q, k ≤ j → zs[j]? = some q → cmpL z q < 0) (h2 : k = 0 ∨ ∃ q, zs[k - 1]? = some q ∧ ¬ cmpL z q < 0) : Asc (zs.take k ++ z :: zs.drop k) := by
  have h0 : Asc (zs.take k ++ zs.drop k) := by rw [List.take_append_drop]; exact h
  obtain ⟨a1, a2, a3⟩ := List.pairwise_append.1 h0
  have zd : ∀ b ∈ zs.drop k, cmpL z b < 0 := fun b hb => by
    obtain ⟨i, hi, rfl⟩ := List.mem_iff_getElem.1 hb
    refine h1 (k + i) _ (by omega) ?_
    rw [List.getElem_drop]
    exact List.getElem?_eq_getElem _
  refine List.pairwise_append.2 ⟨a1, List.pairwise_cons.2 ⟨fun b hb => by have := zd b hb; omega, a2⟩, fun a ha b hb => ?_⟩
  have haz : cmpL a z ≤ 0 := by
    rcases h2 with rfl | ⟨q, hq, hc⟩
    · simp at ha
    · have hqz : cmpL q z ≤ 0 := by have := cmpL_swap q z; omega
      obtain ⟨i, hi, rfl⟩ := List.mem_iff_getElem.1 ha
      rw [List.length_take] at hi
      obtain ⟨hq1, hq2⟩ := List.getElem?_eq_some_iff.1 hq
      rw [List.getElem_take]
      by_cases e : i = k - 1
      · subst e; rw [hq2]; exact hqz
      · have := List.pairwise_iff_getElem.1 h i (k - 1) (by omega) hq1 (by omega)
        rw [hq2] at this
        exact cmpL_trans this hqz
  rcases List.mem_cons.1 hb with rfl | hb
  · exact haz
  · exact a3 a ha b hb
end Go.Proofs.Yteejfjgofpolkaa
