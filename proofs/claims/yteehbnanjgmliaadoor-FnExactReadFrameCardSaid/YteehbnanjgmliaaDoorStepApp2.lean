/- append inside a region that draws: a list behind a list, a row behind rows. -/
import Derived.Test.YteehbnanjgmliaaDoorMat
import Derived.Deep.AppendLies
import Derived.Deep.RegionHeld3
namespace Go.Proofs.YteehbnanjgmliaaDoor
set_option linter.unusedVariables false
open Go.RowKit Go.Deep
theorem step_app_ints {ops : Array Oper} {o : Oper} {a : Act} {K : Act → World → Prop} {Q : Exit → Act → World → Prop} {E : Prop} (w : World) (hgd : o.guard = none) (s x : Operand)
    (ho : o.op = .call { callee := .builtin .append, args := #[s, x], argTypes := #[30, 30] }) (base : Nat)
    (A : Option Addr) (n c : Nat) (zs : List Int) (hs : a.eval s = .slice A n c) (hown : OwnI w base A n c zs)
    (B : Option Addr) (m d : Nat) (ys : List Int) (hx : a.eval x = .slice B m d) (hr : Ints .i64 w B m d ys) (hm : 0 < m) (hn : n ≤ 1048576) (hm2 : m ≤ 1048576) (hbase : base ≤ w.heap.size)
    (h : ∀ g c' w1, OwnI w1 base (some ⟨g, 0, none⟩) (n + m) c' (zs ++ ys) → w.grownBy w1 (Value.slice A n c).ownBlock → ((Value.slice A n c).ownBlock = some g ∨ g = w.heap.size) → K (a.put o.dst (.slice (some ⟨g, 0, none⟩) (n + m) c')) w1) :
    if Region.wanted o (yielded ops a.tmps) = true then Oper.wp Tryd.prog o a w K Q else E := by
  obtain ⟨i0, hi, hz0, hz1, hz2⟩ := info_parts info_int
  obtain ⟨b, off, rfl, _, hc⟩ := hr.2.2.2.2 hm
  refine step_append_lies w hgd s x _ ho base _ i0 _ 1 8 Tryd.underlying30 hi hz0 hz1 hz2 rfl (by decide) _ n (vals zs) hs hown.1 ⟨b, off, none⟩ m d (vals ys) hx (by simp [vals, hr.1]) ?_ (by intro u hu; simp [vals] at hu; obtain ⟨z, _, rfl⟩ := hu; rfl) hm (by unfold maxLen; omega) (by omega) hbase w.heap.size rfl ?_
  · intro j u hu
    rw [vals, List.getElem?_map] at hu
    obtain ⟨z, hy, rfl⟩ := Option.map_eq_some_iff.1 hu
    rw [Addr.add_lit]
    exact hc j z hy
  · intro g cap w' h2 h3 h4 h5
    refine h g cap w' ⟨by simpa [vals] using h2, fun z hz => ?_⟩ h3 h4
    rcases List.mem_append.1 hz with hz | hz
    · exact hown.2 z hz
    · exact hr.2.2.2.1 z hz
theorem step_app_row {ops : Array Oper} {o : Oper} {a : Act} {K : Act → World → Prop} {Q : Exit → Act → World → Prop} {E : Prop} (w : World) (hgd : o.guard = none) (s x : Operand)
    (ho : o.op = .call { callee := .builtin .append, args := #[s, x], argTypes := #[22, 22] }) (base : Nat)
    (A : Option Addr) (n c : Nat) (vs : List Value) (zss : List (List Int)) (hs : a.eval s = .slice A n c) (hown : OwnM w base A n c vs zss)
    (B : Option Addr) (m d : Nat) (zs : List Int) (hrow : OwnI w base B m d zs) (hap : ∀ v ∈ vs, Apart v (.slice B m d))
    (g0 : Nat) (hx : a.eval x = .slice (some ⟨g0, 0, none⟩) 1 1) (hc : w.cell? ⟨g0, 0, none⟩ = some (.slice B m d)) (hn : n ≤ 1099511627776) (hbase : base ≤ w.heap.size)
    (h : ∀ g c' w1, OwnM w1 base (some ⟨g, 0, none⟩) (n + 1) c' (vs ++ [Value.slice B m d]) (zss ++ [zs]) → w.grownBy w1 (Value.slice A n c).ownBlock → ((Value.slice A n c).ownBlock = some g ∨ g = w.heap.size) → K (a.put o.dst (.slice (some ⟨g, 0, none⟩) (n + 1) c')) w1) :
    if Region.wanted o (yielded ops a.tmps) = true then Oper.wp Tryd.prog o a w K Q else E := by
  obtain ⟨i0, hi, hz0, hz1, hz2⟩ := info_parts info_row
  have hm : zs.length = m := hrow.len
  refine step_append_lies w hgd s x _ ho base _ i0 _ 1 24 Tryd.underlying22 hi hz0 hz1 hz2 rfl (by decide) _ n vs hs hown.outer ⟨g0, 0, none⟩ 1 1 [.slice B m d] hx rfl ?_ (by simp [Value.oneCell']) (by omega) (by unfold maxLen; omega) (by omega) hbase w.heap.size rfl ?_
  · intro j u hj
    match j, hj with
    | 0, hj => simp at hj; subst hj; rw [Addr.add_lit]; exact hc
  · intro g cap w1 h1 h2 h4 h5
    refine h g cap w1 ⟨h1, by rw [List.length_append, hown.len]; rfl, fun j ys hy => ?_, ?_⟩ h2 h4
    · have hvl := hown.vlen
      have hzl := hown.len
      have keep : ∀ {B' : Option Addr} {m' d' : Nat} {us : List Int}, OwnI w base B' m' d' us → OwnI w1 base B' m' d' us := fun hu =>
        hu.kept h2 (own_ne hu.1 hown.outer (by decide))
      rcases Nat.lt_or_ge j n with hj | hj
      · rw [List.getElem?_append_left (by omega)] at hy
        obtain ⟨A2, c2, hv, hi2⟩ := hown.row j ys hy
        exact ⟨A2, c2, by rw [List.getElem?_append_left (by omega)]; exact hv, keep hi2⟩
      · rw [List.getElem?_append_right (by omega)] at hy
        have hj0 : j - zss.length = 0 := by
          rcases Nat.eq_zero_or_pos (j - zss.length) with e | e
          · exact e
          · rw [List.getElem?_eq_none (by simp; omega)] at hy; cases hy
        rw [hj0] at hy
        simp at hy
        subst hy
        refine ⟨B, d, ?_, by rw [hm]; exact keep hrow⟩
        rw [List.getElem?_append_right (by omega), show j - vs.length = 0 by omega, hm]
        rfl
    · rw [List.pairwise_append]
      exact ⟨hown.apart, by simp, fun u hu v hv => by simp at hv; subst hv; exact hap u hu⟩
end Go.Proofs.YteehbnanjgmliaaDoor
