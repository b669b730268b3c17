/- FnCompleted: what the law asks, mathematics. -/
import Derived.Test.YtiodbjfchfmlcaaPra
import Derived.Test.YtiodbjfchfmlcaaElF
namespace Go.Proofs.Ytiodbjfchfmlcaa
set_option linter.unusedVariables false
set_option linter.unusedSimpArgs false
open Go.RowKit
theorem EqR.after {e : El} {L M : List Nat} (h : EqR e L) (k : EqFin e M) : ∃ t, M = L ++ t := by
  induction h with
  | nil => exact ⟨M, rfl⟩
  | @snoc L S b r m h hS hb ih =>
    obtain ⟨t, rfl⟩ := ih
    obtain ⟨kr, T, hT, hn⟩ := k
    cases t with
    | nil =>
      rw [List.append_nil] at hT hn
      rw [hS] at hT
      injection hT with hT
      subst hT
      rw [hb] at hn
      cases hn
    | cons c t =>
      obtain ⟨S', r', m', h1, h2, _⟩ := kr.at (k := L.length) (x := c) (by rw [List.getElem?_append_right (Nat.le_refl _), Nat.sub_self]; rfl)
      rw [List.take_append_of_le_length (Nat.le_refl _), List.take_length] at h1 h2
      rw [hS] at h1
      injection h1 with h1
      subst h1
      rw [hb] at h2
      injection h2 with h2
      injection h2 with h2 _
      subst h2
      exact ⟨t, by simp⟩
/-- There is one order of equal shares. -/
theorem EqFin.same {e : El} {L M : List Nat} (h : EqFin e L) (k : EqFin e M) : L = M := by
  obtain ⟨t, e1⟩ := h.1.after k
  obtain ⟨s, e2⟩ := k.1.after h
  have l1 := congrArg List.length e1
  have l2 := congrArg List.length e2
  rw [List.length_append] at l1 l2
  have : t = [] := List.eq_nil_of_length_eq_zero (by omega)
  rw [e1, this, List.append_nil]
/-- The projects of an order, in order. -/
def srtN (L : List Nat) (k : Nat) : List Nat := (List.range k).filter fun i => L.contains i
theorem srtN_yes {L : List Nat} {k : Nat} (h : L.contains k = true) : srtN L (k + 1) = srtN L k ++ [k] := by
  unfold srtN
  rw [List.range_succ, List.filter_append]
  have h := List.contains_iff_mem.1 h
  simp [h]
theorem srtN_no {L : List Nat} {k : Nat} (h : L.contains k = false) : srtN L (k + 1) = srtN L k := by
  unfold srtN
  rw [List.range_succ, List.filter_append]
  have h : k ∉ L := fun hm => by rw [List.contains_iff_mem.2 hm] at h; cases h
  simp [h]
theorem srtN_len (L : List Nat) (k : Nat) : (srtN L k).length ≤ k := by
  have := List.length_filter_le (fun i => L.contains i) (List.range k)
  rw [List.length_range] at this
  exact this
theorem srtN_set (L : List Nat) : ∀ k : Nat, SetP (zns (srtN L k)) k
  | 0 => by
    refine ⟨fun z hz => ?_, fun i x y hx => ?_⟩
    · simp [srtN, zns] at hz
    · simp [srtN, zns] at hx
  | k + 1 => by
    have ih := srtN_set L k
    cases h : L.contains k
    · rw [srtN_no h]
      exact ih.wider (by omega)
    · rw [srtN_yes h, zns_snoc]
      have := ih.snoc (by omega)
      push_cast
      exact this
theorem srtN_perm {L : List Nat} {m : Nat} (hn : L.Nodup) (hl : ∀ x ∈ L, x < m) : (srtN L m).Perm L := by
  refine (List.perm_ext_iff_of_nodup (List.Pairwise.filter _ List.nodup_range) hn).2 fun a => ?_
  rw [List.mem_filter, List.mem_range, List.contains_iff_mem]
  exact ⟨fun h => h.2, fun h => ⟨hl a h, h⟩⟩
theorem costL_srt {cs : List Int} {L : List Nat} {m : Nat} (hn : L.Nodup) (hl : ∀ x ∈ L, x < m) : costL cs (srtN L m) = costL cs L := perm_sum ((srtN_perm hn hl).map _)
theorem costL_bd {e : El} (ok : EOk' e) : ∀ (L : List Nat), (∀ x ∈ L, x < e.cs.length) → 0 ≤ costL e.cs L ∧ costL e.cs L ≤ 60 * L.length
  | [], _ => by simp [costL]
  | x :: L, h => by
    have ih := costL_bd ok L (fun y hy => h y (List.mem_cons_of_mem _ hy))
    have := ok.costx (h x (List.mem_cons_self ..))
    have e1 : costL e.cs (x :: L) = e.cs.getD x 0 + costL e.cs L := by simp [costL]
    rw [e1, List.length_cons]
    push_cast
    omega
theorem costL_snoc {cs : List Int} {L : List Nat} {k x : Nat} (h : L[k]? = some x) : costL cs (L.take (k + 1)) = costL cs (L.take k) + cs.getD x 0 := by
  unfold costL
  rw [List.take_add_one, h, List.map_append, List.sum_append]
  simp
/-- What is bought costs at most the money. -/
theorem eq_cost {e : El} (ok : EOk' e) {L : List Nat} (h : EqR e L) : costL e.cs L ≤ e.mon := by
  have K := h.keep ok
  obtain ⟨S, hS⟩ := K.st
  have st := bgt_ok ok K.lt hS
  have h0 : ∀ l : List Int, (∀ p ∈ l, 0 ≤ p) → 0 ≤ l.sum := by
    intro l
    induction l with
    | nil => intro _; simp
    | cons a l ih =>
      intro h
      rw [List.sum_cons]
      have := h a (List.mem_cons_self ..)
      have := ih (fun p hp => h p (List.mem_cons_of_mem _ hp))
      omega
  have s0 := h0 _ st.p0
  rw [st.sum] at s0
  have d := st.d1
  rcases Int.lt_or_le e.mon (costL e.cs L) with h1 | h1
  · have := Int.mul_pos (a := costL e.cs L - e.mon) (b := S.1) (by omega) (by omega)
    rw [Int.sub_mul] at s0 this
    omega
  · exact h1
def withM (e : El) (M : Int) : El := ⟨M, e.cs, e.ap⟩
theorem withM_ok {e : El} (ok : EOk' e) {M : Int} (h0 : 0 ≤ M) (h1 : M ≤ 360) : EOk' (withM e M) := ⟨⟨h0, h1⟩, ok.cs1, ok.ap1, ok.cost, ok.set⟩
theorem withM_ok6 {e : El} (ok : EOk e) {M : Int} (h0 : 0 ≤ M) (h1 : M ≤ 60) : EOk (withM e M) := ⟨⟨h0, h1⟩, ok.cs1, ok.ap1, ok.cost, ok.set⟩
theorem withM_W {w : World} {CA AA : Option Addr} {m cc n ac : Nat} {e : El} (h : ElW w CA m cc AA n ac e) (M : Int) : ElW w CA m cc AA n ac (withM e M) := ⟨h.c, h.a⟩
/-- What CompletedShares gives. -/
structure Cpl (e : El) (L : List Nat) (M : Int) : Prop where
  lo : e.mon ≤ M
  hi : M ≤ 360
  fin : EqFin (withM e M) L
  cost : costL e.cs L ≤ e.mon
  next : M < 360 → ∃ L', EqFin (withM e (M + 1)) L' ∧ e.mon < costL e.cs L'
/-- While it runs: M is tried next. -/
def CplI (e : El) (L : List Nat) (last M : Int) : Prop := e.mon ≤ M ∧ M ≤ 361 ∧ ((M = e.mon ∧ last = e.mon ∧ L = []) ∨ (last = M - 1 ∧ e.mon < M ∧ EqFin (withM e (M - 1)) L ∧ costL e.cs L ≤ e.mon))
theorem CplI.start (e : El) (h : e.mon ≤ 60) : CplI e [] e.mon e.mon := ⟨Int.le_refl _, by omega, .inl ⟨rfl, rfl, rfl⟩⟩
theorem CplI.next {e : El} {L L' : List Nat} {last M : Int} (h : CplI e L last M) (hM : M ≤ 360) (hf : EqFin (withM e M) L') (hc : costL e.cs L' ≤ e.mon) : CplI e L' M (M + 1) := by
  obtain ⟨h1, h2, _⟩ := h
  refine ⟨by omega, by omega, .inr ⟨by omega, by omega, ?_, hc⟩⟩
  rw [show M + 1 - 1 = M by omega]
  exact hf
theorem CplI.full {e : El} {L : List Nat} {last M : Int} (h : CplI e L last M) (hM : ¬ M ≤ 360) (h60 : e.mon ≤ 60) : Cpl e L last := by
  obtain ⟨h1, h2, h3⟩ := h
  rcases h3 with ⟨h3, _, _⟩ | ⟨h3, h4, h5, h6⟩
  · omega
  · subst h3
    exact ⟨by omega, by omega, h5, h6, fun h => by omega⟩
theorem CplI.stop {e : El} (ok : EOk' e) {L L' : List Nat} {last M : Int} (h : CplI e L last M) (hM : M ≤ 360) (hf : EqFin (withM e M) L') (hc : ¬ costL e.cs L' ≤ e.mon) : Cpl e L last := by
  obtain ⟨h1, h2, h3⟩ := h
  rcases h3 with ⟨h3, _, _⟩ | ⟨h3, h4, h5, h6⟩
  · subst h3
    exact absurd (eq_cost (withM_ok ok ok.mon.1 ok.mon.2) hf.1) hc
  · subst h3
    exact ⟨by omega, by omega, h5, h6, fun _ => ⟨L', by rw [show M - 1 + 1 = M by omega]; exact hf, by omega⟩⟩
end Go.Proofs.Ytiodbjfchfmlcaa
