/- Voices in memory; a queue that loses its head. -/
import Derived.Test.YtefddohjnemdiaaVoP
import Derived.Test.YtefddohjnemdiaaApp
import Derived.Test.YtefddohjnemdiaaRec
import Derived.Test.YtefddohjnemdiaaRws
import Derived.Test.YtefddohjnemdiaaSetA
import Derived.Test.YtefddohjnemdiaaSorted
import Derived.Deep.AppendSrc
import Derived.Deep.MidRow
namespace Go.Proofs.Ytefddohjnemdiaa
set_option linter.unusedVariables false
set_option linter.unusedSimpArgs false
open Go.RowKit
def zr (r : List Nat) : List Int := r.map fun a : Nat => (a : Int)
theorem zr_len (r : List Nat) : (zr r).length = r.length := by simp [zr]
theorem zr_at {r : List Nat} {i x : Nat} (h : r[i]? = some x) : (zr r)[i]? = some (x : Int) := by simp [zr, h]
theorem zr_get {r : List Nat} {i : Nat} {z : Int} (h : (zr r)[i]? = some z) : ∃ x, r[i]? = some x ∧ z = (x : Int) := by
  unfold zr at h
  rw [List.getElem?_map] at h
  obtain ⟨x, hx, rfl⟩ := Option.map_eq_some_iff.1 h
  exact ⟨x, hx, rfl⟩
theorem zr_app (r s : List Nat) : zr (r ++ s) = zr r ++ zr s := by simp [zr]
theorem zr_one (x : Nat) : zr [x] = [(x : Int)] := rfl
theorem zr_any (p : List Nat) (b : Nat) : (zr p).any (· == (b : Int)) = decide (b ∈ p) := by
  rw [Bool.eq_iff_iff]
  simp [zr]
  constructor
  · rintro ⟨x, hx, he⟩
    have : x = b := by omega
    subst this
    exact hx
  · intro h
    exact ⟨b, h, rfl⟩
theorem zr_has (p : List Nat) (b : Nat) : (zr p).contains (b : Int) = decide (b ∈ p) := by
  rw [Bool.eq_iff_iff]
  simp [zr]
  constructor
  · rintro ⟨x, hx, he⟩
    have : x = b := by omega
    subst this
    exact hx
  · intro h
    exact ⟨b, h, rfl⟩
/-- Voices, read. -/
def VoV (w : World) (A : Option Addr) (n c : Nat) (V : List Vo) : Prop :=
  V.length = n ∧ n ≤ c ∧ c ≤ maxLen ∧ (0 < n → ∃ b off, A = some ⟨b, off, none⟩ ∧ b < w.heap.size ∧ ∀ j v, V[j]? = some v →
    ∃ T d, w.cell? ⟨b, off + j * 2, none⟩ = some (.bool v.sp) ∧ w.cell? ⟨b, off + j * 2 + 1, none⟩ = some (.slice T v.tr.length d) ∧ Ints .i64 w T v.tr.length d (zr v.tr))
theorem VoV.below {w w' : World} {A : Option Addr} {n c : Nat} {V : List Vo} (h : VoV w A n c V) (hb : Below w.heap.size w w') : VoV w' A n c V := by
  obtain ⟨h1, h2, h3, h4⟩ := h
  refine ⟨h1, h2, h3, fun hn => ?_⟩
  obtain ⟨b, off, hA, hbk, hc⟩ := h4 hn
  refine ⟨b, off, hA, Nat.lt_of_lt_of_le hbk hb.size, fun j v hj => ?_⟩
  obtain ⟨T, d, k1, k2, k3⟩ := hc j v hj
  exact ⟨T, d, (hb.cell (p := ⟨b, off + j * 2, none⟩) hbk).trans k1, (hb.cell (p := ⟨b, off + j * 2 + 1, none⟩) hbk).trans k2, k3.below hb⟩
theorem VoV.short {w : World} {A : Option Addr} {n c : Nat} {V : List Vo} (h : VoV w A n c V) : n ≤ 9223372036854775807 := by
  have := h.2.1; have := h.2.2.1; unfold maxLen at *; omega
theorem VoV.at {w : World} {A : Option Addr} {n c j : Nat} {V : List Vo} (h : VoV w A n c V) (hj : j < n) :
    ∃ b off T d, A = some ⟨b, off, none⟩ ∧ b < w.heap.size ∧ w.cell? ⟨b, off + j * 2, none⟩ = some (.bool (spk V j)) ∧ w.cell? ⟨b, off + j * 2 + 1, none⟩ = some (.slice T (trs V j).length d) ∧ Ints .i64 w T (trs V j).length d (zr (trs V j)) := by
  obtain ⟨h1, h2, h3, h4⟩ := h
  obtain ⟨b, off, hA, hbk, hc⟩ := h4 (by omega)
  have hv : V[j]? = some (V[j]'(by omega)) := List.getElem?_eq_getElem _
  obtain ⟨T, d, k1, k2, k3⟩ := hc j _ hv
  rw [spk_at hv, trs_at hv]
  exact ⟨b, off, T, d, hA, hbk, k1, k2, k3⟩
theorem ints_of_zr {r : List Nat} (h : ∀ x ∈ r, x < 4611686018427387904) : ∀ z ∈ zr r, (Lit.int .i64 z).wf = true := by
  intro z hz
  obtain ⟨x, hx, rfl⟩ := List.mem_map.1 hz
  have := h x hx
  have e : IntKind.i64.min = -9223372036854775808 := by decide
  simp [Lit.wf, e]
  omega
/-- A queue that the call itself made. -/
structure QW (lo : Nat) (w : World) (A : Option Addr) (n c : Nat) (zs : List Int) : Prop where
  len : zs.length = n
  le : n ≤ c
  top : c ≤ maxLen
  wf : ∀ z ∈ zs, (Lit.int .i64 z).wf = true
  at' : ∃ g off, A = some ⟨g, off, none⟩ ∧ lo ≤ g ∧ g < w.heap.size ∧ (∀ j z, zs[j]? = some z → w.cell? ⟨g, off + j, none⟩ = some (.int .i64 z)) ∧
    ∀ j, j < c → (w.cell? ⟨g, off + j, none⟩).isSome = true ∧ w.frozen? ⟨g, off + j, none⟩ = false
theorem QW.ints {lo : Nat} {w : World} {A : Option Addr} {n c : Nat} {zs : List Int} (h : QW lo w A n c zs) : Ints .i64 w A n c zs := by
  obtain ⟨g, off, hA, _, hg, hc, _⟩ := h.at'
  exact ⟨h.len, h.le, h.top, h.wf, fun _ => ⟨g, off, hA, hg, hc⟩⟩
theorem QW.block {lo : Nat} {w : World} {A : Option Addr} {n c : Nat} {zs : List Int} (h : QW lo w A n c zs) : ∀ x, (Value.slice A n c).ownBlock = some x → lo ≤ x ∧ x < w.heap.size := by
  obtain ⟨g, off, rfl, h1, h2, _⟩ := h.at'
  intro x hx
  simp [Value.ownBlock] at hx
  omega
theorem QW.kept {lo : Nat} {w w' : World} {A : Option Addr} {n c : Nat} {zs : List Int} {row : Option Nat} (h : QW lo w A n c zs) (hg : w.grownBy w' row) (hne : ∀ x, (Value.slice A n c).ownBlock = some x → row ≠ some x) : QW lo w' A n c zs := by
  obtain ⟨g, off, rfl, h1, h2, h3, h4⟩ := h.at'
  have hb : w'.heap[g]? = w.heap[g]? := hg.block g h2 (fun e => hne g rfl e.symm)
  refine ⟨h.len, h.le, h.top, h.wf, g, off, rfl, h1, Nat.lt_of_lt_of_le h2 hg.size, fun j z hz => ?_, fun j hj => ?_⟩
  · rw [World.cell?_of_block (a := ⟨g, off + j, none⟩) hb]; exact h3 j z hz
  · rw [World.cell?_of_block (a := ⟨g, off + j, none⟩) hb, World.frozen?_of_block (a := ⟨g, off + j, none⟩) hb]; exact h4 j hj
theorem QW.lit (w : World) (z : Int) (hz : (Lit.int .i64 z).wf = true) : QW w.heap.size (w.alloc (.cells #[.int .i64 z] 2)) (some ⟨w.heap.size, 0, none⟩) 1 1 [z] := by
  refine ⟨rfl, Nat.le_refl _, by unfold maxLen; omega, by simpa using hz, w.heap.size, 0, rfl, Nat.le_refl _, by simp, fun j x hx => ?_, fun j hj => ?_⟩
  · rw [World.cell?_alloc_at _ _ _ _ rfl]
    match j, hx with
    | 0, hx => simp at hx; subst hx; rfl
  · obtain rfl : j = 0 := by omega
    rw [World.cell?_alloc_at _ _ _ _ rfl, World.frozen?_alloc_at _ _ _ _ rfl]
    exact ⟨rfl, rfl⟩
theorem QW.tail {lo : Nat} {w : World} {g off n c : Nat} {z : Int} {zs : List Int} (h : QW lo w (some ⟨g, off, none⟩) (n + 1) c (z :: zs)) : QW lo w (some ⟨g, off + 1, none⟩) n (c - 1) zs := by
  obtain ⟨g', off', e, h1, h2, h3, h4⟩ := h.at'
  injection e with e
  injection e with e1 e2
  subst e1; subst e2
  have hl := h.len
  have hle := h.le
  have ht := h.top
  refine ⟨by simpa using hl, by omega, by omega, fun x hx => h.wf x (List.mem_cons_of_mem _ hx), g, off + 1, rfl, h1, h2, fun j x hx => ?_, fun j hj => ?_⟩
  · rw [show off + 1 + j = off + (j + 1) by omega]; exact h3 (j + 1) x (by simpa using hx)
  · rw [show off + 1 + j = off + (j + 1) by omega]; exact h4 (j + 1) (by omega)
theorem tape_setCells (b : Nat) : ∀ (vs : List Value) (o : Nat) (w : World), (w.setCells b o vs).tape = w.tape ∧ (w.setCells b o vs).os = w.os ∧ (w.setCells b o vs).output = w.output ∧ (w.setCells b o vs).heap.size = w.heap.size ∧ ∀ k, k ≠ b → (w.setCells b o vs).heap[k]? = w.heap[k]?
  | [], _, _ => ⟨rfl, rfl, rfl, rfl, fun _ _ => rfl⟩
  | v :: r, o, w => by
    obtain ⟨h1, h2, h3, h4, h5⟩ := tape_setCells b r (o + 1) (w.setCell ⟨b, o, none⟩ v)
    rw [World.setCells]
    exact ⟨h1, h2, h3, by rw [h4]; simp [World.setCell], fun k hk => by rw [h5 k hk]; exact heap_setCell_other w ⟨b, o, none⟩ k v (fun e => hk (by simpa using e))⟩
theorem run_app_q (w : World) (ty : TypeId) (lo : Nat) (A : Option Addr) (n c : Nat) (zs : List Int) (h : QW lo w A n c zs) (B : Option Addr) (m d : Nat) (ys : List Int) (hr : Ints .i64 w B m d ys)
    (hn : n ≤ 1048576) (hm : m ≤ 1048576) (hlo : lo ≤ w.heap.size) :
    ∃ A' c' w', (Builtin.append_ #[27, 27] ty #[.slice A n c, .slice B m d]).run Try.prog w = .ok (.slice A' (n + m) c') w' ∧ QW lo w' A' (n + m) c' (zs ++ ys) ∧ w.grownBy w' (Value.slice A n c).ownBlock ∧
      NewBlk w (.slice A n c) (.slice A' (n + m) c') := by
  obtain ⟨i0, hi, hz0, hz1, hz2⟩ := info_parts info_int
  have hwf : ∀ z ∈ zs ++ ys, (Lit.int .i64 z).wf = true := fun z hz => by
    rcases List.mem_append.1 hz with hz | hz
    · exact h.wf z hz
    · exact hr.2.2.2.1 z hz
  have hsrc : Src Try.prog i0.size 27 (.slice B m d) m (vals ys) w := by
    rw [hz1]
    rcases B with _ | ad
    · have hm0 : m = 0 := by
        rcases Nat.eq_zero_or_pos m with h0 | h0
        · exact h0
        · obtain ⟨b, off, h, _⟩ := hr.2.2.2.2 h0
          cases h
      subst hm0
      have hy : ys = [] := List.eq_nil_of_length_eq_zero hr.1
      subst hy
      exact Src.ofNil w Try.underlying27 d
    · refine Src.ofSlice w Try.underlying27 ad m d (vals ys) (by simp [vals, hr.1]) ?_ (by intro u hu; simp [vals] at hu; obtain ⟨z, _, rfl⟩ := hu; rfl)
      intro j u hu
      rcases Nat.eq_zero_or_pos m with h0 | h0
      · subst h0
        have hy : ys = [] := List.eq_nil_of_length_eq_zero hr.1
        subst hy
        simp [vals] at hu
      · obtain ⟨b, off, h, _, hc⟩ := hr.2.2.2.2 h0
        simp only [Option.some.injEq] at h
        subst h
        rw [vals, List.getElem?_map] at hu
        obtain ⟨z, hy, rfl⟩ := Option.map_eq_some_iff.1 hu
        rw [Addr.add_lit]
        exact hc j z hy
  obtain ⟨g, off, rfl, h1, h2, h3, h4⟩ := h.at'
  have hzl := h.len
  have hyl : (vals ys).length = m := by simp [vals, hr.1]
  by_cases hroom : n + m ≤ c
  · have hrun := run_append_room_src (P := Try.prog) w 27 27 ty 2 i0 Try.underlying27 hi g off n c _ m (vals ys) hsrc hroom
      (fun j hj => by rw [hz1, Nat.mul_one, Nat.add_assoc]; exact (h4 (n + j) (by omega)).1) (fun j hj => by rw [hz1, Nat.mul_one, Nat.add_assoc]; exact (h4 (n + j) (by omega)).2)
    rw [hz1, Nat.mul_one] at hrun
    obtain ⟨t1, t2, t3, t4, t5⟩ := tape_setCells g (vals ys) (off + n) w
    refine ⟨_, _, _, hrun, ⟨by rw [List.length_append, hzl, hr.1], hroom, h.top, hwf, g, off, rfl, h1, by rw [t4]; exact h2, fun j z hz => ?_, fun j hj => ⟨?_, ?_⟩⟩, ⟨t2, t1, t3, by rw [t4]; exact Nat.le_refl _, fun k _ hk => t5 k (fun e => hk (by simp [Value.ownBlock, e]))⟩, .inl rfl⟩
    · by_cases hj : j < n
      · rw [World.cell?_setCells_out g (vals ys) (off + n) w ⟨g, off + j, none⟩ (fun _ _ => .inl (by show off + j < off + n; omega))]
        rw [List.getElem?_append_left (by omega)] at hz
        exact h3 j z hz
      · rw [List.getElem?_append_right (by omega), hzl] at hz
        have hjm : j - n < m := by have := (List.getElem?_eq_some_iff.1 hz).1; rw [hr.1] at this; exact this
        have := World.cell?_setCells_in g (vals ys) (off + n) w (fun j hj => by rw [Nat.add_assoc]; exact (h4 (n + j) (by omega)).1) (j - n) (by omega)
        rw [show off + n + (j - n) = off + j by omega] at this
        rw [this]
        obtain ⟨_, e⟩ := List.getElem?_eq_some_iff.1 hz
        simp [vals, e]
    · exact World.isSome_setCells g (vals ys) (off + n) w ⟨g, off + j, none⟩ (h4 j hj).1
    · rw [World.frozen?_setCells g (vals ys) (off + n) w]
      exact (h4 j hj).2
  · have hold : (Builtin.firstCells i0.size n (.slice (some ⟨g, off, none⟩) n c)).run Try.prog w.drew = .ok (vals zs).toArray w.drew := by
      rw [hz1]
      refine run_firstCells_some w.drew 1 n ⟨g, off, none⟩ n c (vals zs) (by simp [vals, hzl]) (fun j u hu => ?_)
      rw [vals, List.getElem?_map] at hu
      obtain ⟨z, hy, rfl⟩ := Option.map_eq_some_iff.1 hu
      rw [Addr.add_lit]
      exact h3 j z hy
    have hfit : Builtin.nextslicecap (n + m) c * i0.bytes ≤ 281474976710656 := by
      have := nextslicecap_le (need := n + m) (old := c) (by omega)
      rw [hz2]
      omega
    have hrun := run_append_grow_src (P := Try.prog) w 27 27 ty 2 i0 (.int .i64 0) Try.underlying27 hi hz0 (some ⟨g, off, none⟩) n c (vals zs) hold _ m (vals ys) hsrc (by omega) (by omega) hfit
    have hge := grownCap_ge w (n + m) c 2
    have hcm := grownCap_le_maxLen w (n + m) c 2 (by unfold maxLen; omega)
    have hsz : ((vals zs ++ vals ys).toArray ++ Builtin.zeroCells (Value.int .i64 0).cells (grownCap w (n + m) c 2 - (n + m))).size = grownCap w (n + m) c 2 := by
      simp only [Array.size_append, List.size_toArray, size_zeroCells, List.length_append]
      rw [show (Value.int IntKind.i64 0).cells.size = 1 from rfl, hyl, show (vals zs).length = n by simp [vals, hzl]]
      omega
    refine ⟨_, _, _, hrun, ⟨by rw [List.length_append, hzl, hr.1], hge, hcm, hwf, w.heap.size, 0, rfl, hlo, by simp, fun j z hz => ?_, fun j hj => ⟨?_, ?_⟩⟩, ⟨rfl, rfl, rfl, by simp, fun k hk _ => heap_alloc_old w.drew _ hk⟩, .inr ⟨_, rfl, Nat.le_refl _⟩⟩
    · rw [World.cell?_alloc_at _ _ _ _ (by simp)]
      have hjl := (List.getElem?_eq_some_iff.1 hz).1
      rw [Nat.zero_add, Array.getElem?_append_left (by simp [vals]; simpa using hjl)]
      simp only [List.getElem?_toArray, ← List.map_append, vals, List.getElem?_map, hz]
      rfl
    · rw [World.cell?_alloc_at _ _ _ _ (by simp), Nat.zero_add, Array.getElem?_eq_getElem (by rw [hsz]; exact hj)]
      rfl
    · rw [World.frozen?_alloc_at _ _ _ _ (by simp)]
theorem app_q {ops : Array Oper} {rest : List Oper} {o : Oper} {a : Act} {Q : Exit → Act → World → Prop} (w : World) (hgd : o.guard = none) (s x : Operand)
    (ho : o.op = .call { callee := .builtin .append, args := #[s, x], argTypes := #[27, 27] }) (lo : Nat)
    (A : Option Addr) (n c : Nat) (zs : List Int) (hs : a.eval s = .slice A n c) (hown : QW lo w A n c zs) (B : Option Addr) (m d : Nat) (ys : List Int) (hx : a.eval x = .slice B m d) (hr : Ints .i64 w B m d ys)
    (hn : n ≤ 1048576) (hm : m ≤ 1048576) (hlo : lo ≤ w.heap.size)
    (h : ∀ A' c' w1, QW lo w1 A' (n + m) c' (zs ++ ys) → w.grownBy w1 (Value.slice A n c).ownBlock → NewBlk w (.slice A n c) (.slice A' (n + m) c') → wpList Try.prog ops Q rest (a.put o.dst (.slice A' (n + m) c')) w1) :
    wpList Try.prog ops Q (o :: rest) a w := by
  refine wpList_plain hgd fun K hK => ?_
  obtain ⟨A', c', w', hr, h2, h3, h4⟩ := run_app_q w o.type lo A n c zs hown B m d ys hr hn hm hlo
  unfold Oper.wp execOp
  simp only [ho, resolve, invoke, builtin, Sem.run_bind, Sem.run_pure, Result.andThen_ok, List.map_toArray, List.map_cons, List.map_nil, hs, hx, hr]
  exact hK _ _ (h A' c' w' h2 h3 h4)
theorem contains_ok (A : Option Addr) (n c : Nat) (p : List Nat) (x : Nat) (w : World) (h : Ints .i64 w A n c (zr p)) :
    Calls Try.prog 26 #[.slice A n c, .int .i64 x] w fun e w' => e = .returned (.bool (decide (x ∈ p))) ∧ w = w' := by
  have hl := h.1
  rw [← zr_has]
  rcases Nat.eq_zero_or_pos n with h0 | h0
  · subst h0
    have : zr p = [] := List.eq_nil_of_length_eq_zero hl
    rw [this]
    refine (Try.slices_Contains_int_empty A c x w).mono ?_
    rintro e w' ⟨rfl, rfl⟩
    exact ⟨rfl, rfl⟩
  · obtain ⟨b, off, rfl, hb, hc⟩ := h.2.2.2.2 h0
    refine (Try.slices_Contains_int b off n c (zr p) x w (by omega) h.short ?_).mono ?_
    · intro j hj
      have := hc j _ (List.getElem?_eq_getElem hj)
      rw [this, List.getD_eq_getElem?_getD, List.getElem?_eq_getElem hj]
      rfl
    · rintro e w' ⟨rfl, rfl⟩
      rw [List.take_of_length_le (by omega)]
      exact ⟨rfl, rfl⟩
end Go.Proofs.Ytefddohjnemdiaa
