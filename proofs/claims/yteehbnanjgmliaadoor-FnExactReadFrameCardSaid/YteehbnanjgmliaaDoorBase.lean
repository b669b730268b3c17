/- What the walks are told of slices of integers that came in or were handed on; lists by index.  -/
import Derived.Test.YteehbnanjgmliaaDoorRows
import Derived.WalkKit
import Derived.ProofKit
import Derived.OpenShut
import Derived.Below
import Derived.Lib.Hide
import Derived.Deep.OwnRows
import Derived.OwnWalk
import Derived.Outline
namespace Go.Proofs.YteehbnanjgmliaaDoor
set_option linter.unusedVariables false
open Go.RowKit

theorem ret_int {k : IntKind} {a b : Int} (h : a = b) : Ending.returned (.int k a) = .returned (.int k b) := by rw [h]
theorem ret_bool {a b : Bool} (h : a = b) : Ending.returned (.bool a) = .returned (.bool b) := by rw [h]
theorem ret_ib {k : IntKind} {a b : Int} {c d : Bool} (h : a = b) (h' : c = d) : Ending.returned (.tuple #[.int k a, .bool c]) = .returned (.tuple #[.int k b, .bool d]) := by rw [h, h']

/-- A slice value (address A, length n, capacity c) reads as the integers zs. -/
def Ints (k : IntKind) (w : World) (A : Option Addr) (n c : Nat) (zs : List Int) : Prop :=
  zs.length = n ∧ n ≤ c ∧ c ≤ maxLen ∧ (∀ z ∈ zs, (Lit.int k z).wf = true) ∧
  (0 < n → ∃ b off, A = some ⟨b, off, none⟩ ∧ b < w.heap.size ∧ ∀ j z, zs[j]? = some z → w.cell? ⟨b, off + j, none⟩ = some (.int k z))

theorem Ints.at {w : World} {A : Option Addr} {n c j : Nat} {zs : List Int} (h : Ints .i64 w A n c zs) (hj : j < n) :
    ∃ b off z, A = some ⟨b, off, none⟩ ∧ b < w.heap.size ∧ w.cell? ⟨b, off + j, none⟩ = some (.int .i64 z) ∧ -9223372036854775808 ≤ z ∧ z ≤ 9223372036854775807 ∧ Hid (zs[j]? = some z) := by
  obtain ⟨h1, h2, h3, h4, h5⟩ := h
  obtain ⟨b, off, hA, hb, hc⟩ := h5 (by omega)
  have hl : j < zs.length := by omega
  have hg : zs[j]? = some zs[j] := List.getElem?_eq_getElem hl
  have hw := bounds_i64 (h4 zs[j] (List.getElem_mem hl))
  exact ⟨b, off, zs[j], hA, hb, hc j _ hg, hw.1, hw.2, hg⟩

theorem take_snoc' {α : Type} {zs : List α} {k : Nat} {z : α} (h : zs[k]? = some z) : zs.take (k + 1) = zs.take k ++ [z] := by
  rw [List.take_add_one, h]; rfl
theorem mem_of_at {α : Type} {zs : List α} {k : Nat} {z : α} (h : zs[k]? = some z) : z ∈ zs := List.mem_of_getElem? h
theorem any_next {α : Type} {zs : List α} {k : Nat} {z : α} {p : α → Bool} (h : zs[k]? = some z) (ha : (zs.take k).any p = false) (hp : p z = false) : (zs.take (k + 1)).any p = false := by
  rw [take_snoc' h, List.any_append, ha]; simp [hp]
theorem any_stop {α : Type} {zs : List α} {k : Nat} {z : α} {p : α → Bool} (h : zs[k]? = some z) (hp : p z = true) : zs.any p = true :=
  List.any_eq_true.2 ⟨z, mem_of_at h, hp⟩
theorem any_end {α : Type} {zs : List α} {k : Nat} {p : α → Bool} (h : zs.length ≤ k) (ha : (zs.take k).any p = false) : zs.any p = false := by
  rwa [List.take_of_length_le h] at ha
theorem all_next {α : Type} {zs : List α} {k : Nat} {z : α} {p : α → Bool} (h : zs[k]? = some z) (ha : (zs.take k).all p = true) (hp : p z = true) : (zs.take (k + 1)).all p = true := by
  rw [take_snoc' h, List.all_append, ha]; simp [hp]
theorem all_stop {α : Type} {zs : List α} {k : Nat} {z : α} {p : α → Bool} (h : zs[k]? = some z) (hp : p z = false) : zs.all p = false :=
  List.all_eq_false.2 ⟨z, mem_of_at h, by simp [hp]⟩
theorem all_end {α : Type} {zs : List α} {k : Nat} {p : α → Bool} (h : zs.length ≤ k) (ha : (zs.take k).all p = true) : zs.all p = true := by
  rwa [List.take_of_length_le h] at ha

/-- An index that says whether something was found. -/
def IdxIs (r : Int) (b : Bool) : Prop := decide (0 ≤ r) = b
def SomeIdx (b : Bool) (w : World) (e : Ending) (w' : World) : Prop := ∃ r : Int, e = .returned (.int .i64 r) ∧ IdxIs r b ∧ Below w.heap.size w w'
theorem Ints.below {k : IntKind} {w w' : World} {A : Option Addr} {n c : Nat} {zs : List Int} (h : Ints k w A n c zs) (hb : Below w.heap.size w w') : Ints k w' A n c zs := by
  obtain ⟨h1, h2, h3, h4, h5⟩ := h
  refine ⟨h1, h2, h3, h4, fun hn => ?_⟩
  obtain ⟨b, off, hA, hbk, hc⟩ := h5 hn
  refine ⟨b, off, hA, Nat.lt_of_lt_of_le hbk hb.size, fun j z hz => ?_⟩
  rw [hb.cell (p := ⟨b, off + j, none⟩) hbk]
  exact hc j z hz
theorem Ints.short {k : IntKind} {w : World} {A : Option Addr} {n c : Nat} {zs : List Int} (h : Ints k w A n c zs) : n ≤ 9223372036854775807 := by
  have := h.2.1; have := h.2.2.1; unfold maxLen at *; omega
theorem bel_trans {a b c : World} (h : Below a.heap.size a b) (k : Below b.heap.size b c) : Below a.heap.size a c := h.trans (k.mono h.size)
theorem bel_alloc (w : World) (o : Obj) : Below w.heap.size w (w.alloc o) := (Below.refl _ _).alloc (Nat.le_refl _) _

/-- Has a list so many numbers, and are all of them something? -/
def allB (zs : List Int) (m : Int) (p : Int → Bool) : Bool := ((zs.length : Int) == m) && !(zs.any fun z => !p z)
theorem allB_true {zs : List Int} {m : Int} {p : Int → Bool} : allB zs m p = true ↔ (zs.length : Int) = m ∧ ∀ z ∈ zs, p z = true := by
  simp [allB]
theorem allB_short {zs : List Int} {m : Int} {p : Int → Bool} (h : ((zs.length : Int) == m) = false) : allB zs m p = false := by simp [allB, h]
theorem allB_long {zs : List Int} {m : Int} {p : Int → Bool} (h : ((zs.length : Int) == m) = true) : allB zs m p = !(zs.any fun z => !p z) := by simp [allB, h]
theorem ints_nil (k : IntKind) (w : World) : Ints k w none 0 0 [] := ⟨rfl, Nat.le_refl _, by unfold maxLen; omega, by simp, fun h => absurd h (by omega)⟩
theorem ints_opened {k : IntKind} {w : World} {x : Addr} {n c : Nat} {zs : List Int} (hl : n ≤ c) (hm : c ≤ maxLen) (hz : zs.length = c)
    (hcell : ∀ i, i < zs.length → w.cell? (x.add i) = some (.int k (zs.getD i 0))) (hwz : ∀ n ∈ zs, (Lit.int k n).wf = true) : Ints k w (some x) n c (zs.take n) := by
  refine ⟨by simp; omega, hl, hm, fun z h => hwz z (List.mem_of_mem_take h), fun hn => ?_⟩
  obtain ⟨b, off, spot⟩ := x
  have hc0 := hcell 0 (by omega)
  have hspot : spot = none := by simpa [Addr.add] using World.cell?_spot hc0
  subst hspot
  refine ⟨b, off, rfl, ?_, fun j z hj => ?_⟩
  · have := World.block_lt_of_cell? w _ hc0
    simpa [Addr.add] using this
  · have hj' : j < zs.length := by
      have := (List.getElem?_eq_some_iff.1 hj).1
      simp at this; omega
    have hc := hcell j hj'
    have hzj : zs.getD j 0 = z := by
      rw [List.getElem?_take] at hj
      split at hj
      · simp [List.getD_eq_getElem?_getD, hj]
      · cases hj
    rw [hzj] at hc
    rw [← hc, Addr.add_lit]

/-- The values of integers. -/
def vals (zs : List Int) : List Value := zs.map (Value.int .i64)
theorem vals_at {zs : List Int} {j : Nat} {z : Int} (h : zs[j]? = some z) : (vals zs)[j]? = some (.int .i64 z) := by simp [vals, h]
theorem vals_snoc (zs : List Int) (z : Int) : vals (zs ++ [z]) = vals zs ++ [.int .i64 z] := by simp [vals]

/-- A slice of int64 that the call itself made: block g, from base on. -/
def OwnI (w : World) (base : Nat) (A : Option Addr) (n c : Nat) (zs : List Int) : Prop :=
  w.ownsRow base 2 1 (.slice A n c) n (vals zs) ∧ ∀ z ∈ zs, (Lit.int .i64 z).wf = true
theorem OwnI.ints {w : World} {base : Nat} {A : Option Addr} {n c : Nat} {zs : List Int} (h : OwnI w base A n c zs) : Ints .i64 w A n c zs := by
  obtain ⟨hown, hwf⟩ := h
  have hl : zs.length = n := by have := hown.1; simpa [vals] using this
  rcases hown.2 with ⟨hv, hn⟩ | ⟨g, cap, cur, hv, hb, hg, hnc, hcm, hcs, ht⟩
  · simp only [Value.slice.injEq] at hv
    obtain ⟨rfl, rfl, rfl⟩ := hv
    have : zs = [] := List.eq_nil_of_length_eq_zero hl
    subst this
    exact ints_nil _ _
  · simp only [Value.slice.injEq, true_and] at hv
    obtain ⟨rfl, rfl⟩ := hv
    refine ⟨hl, hnc, hcm, hwf, fun hn => ⟨g, 0, rfl, (Array.getElem?_eq_some_iff.1 hg).1, fun j z hz => ?_⟩⟩
    have := World.ownsRow.cells hown (g := g) rfl j _ (vals_at hz)
    rw [← this, Addr.add_lit]
/-- What a maker of such a slice leaves. -/
def MadeI (zs : List Int) (w : World) (e : Ending) (w' : World) : Prop :=
  ∃ A c, e = .returned (.slice A zs.length c) ∧ OwnI w' w.heap.size A zs.length c zs ∧ Below w.heap.size w w'

theorem set_step {zs : List Int} {n k : Nat} {z : Int} (hz : zs[k]? = some z) (hk : k < n) :
    (vals (zs.take k) ++ List.replicate (n - k) (Value.int .i64 0)).set k (.int .i64 z) = vals (zs.take (k + 1)) ++ List.replicate (n - (k + 1)) (Value.int .i64 0) := by
  have hl : k < zs.length := (List.getElem?_eq_some_iff.1 hz).1
  have h1 : (vals (zs.take k)).length = k := by simp [vals]; omega
  rw [List.set_append_right _ _ (by omega), h1, Nat.sub_self, take_snoc' hz, vals_snoc]
  obtain ⟨m, hm⟩ : ∃ m, n - k = m + 1 := ⟨n - k - 1, by omega⟩
  rw [hm, show n - (k + 1) = m from by omega, List.replicate_succ, List.set_cons_zero]
  simp
theorem info_int : (Tryd.prog.info? 2).map (fun i => (i.zero, i.size, i.bytes)) = some (some (.int .i64 0), 1, 8) := by kernel_rfl
theorem allB_eq (zs : List Int) (m : Int) (p : Int → Bool) : allB zs m p = (((zs.length : Int) == m) && zs.all p) := by
  unfold allB; congr 1; induction zs <;> simp_all
theorem allB_no {zs : List Int} {m : Int} {p : Int → Bool} (h : zs.all p = false) : allB zs m p = false := by rw [allB_eq, h]; simp
theorem allB_yes {zs : List Int} {m : Int} {n : Nat} {p : Int → Bool} (hl : zs.length = n) (h : zs.all p = true) : allB zs m p = ((n : Int) == m) := by rw [allB_eq, h, hl]; simp

/-! ### append of one element to a row of the call's own -/
theorem wp_app1 {P : Program} (w : World) {ops : Array Oper} {rest : List Oper} {o : Oper} {a : Act} {Q : Exit → Act → World → Prop} (hgd : o.guard = none) (s x : Operand) (t : TypeId)
    (ho : o.op = .call { callee := .builtin .append, args := #[s, x], argTypes := #[t, t] })
    (base : Nat) (e : TypeId) (i : TypeInfo) (z : Value) (bytes : Nat) (ht : P.underlying t = some (.slice e)) (hi : P.info? e = some i) (hz : i.zero = some z)
    (hsize : i.size = 1) (hby : i.bytes = bytes) (hzs : z.cells.size = 1)
    (A : Option Addr) (n c : Nat) (xs : List Value) (hs : a.eval s = .slice A n c) (hown : w.ownsRow base e 1 (.slice A n c) n xs)
    (u : Value) (hu : u.oneCell' = true) (hx : a.eval x = .slice (some ⟨w.heap.size, 0, none⟩) 1 1)
    (h63 : n + 1 ≤ maxLen) (hbytes : (n + 1) * bytes ≤ 140737488355328) (hbase : base ≤ w.heap.size)
    (h : ∀ A' c' w1, w1.ownsRow base e 1 (.slice A' (n + 1) c') (n + 1) (xs ++ [u]) → w.grownBy w1 (Value.slice A n c).ownBlock → wpList P ops Q rest (a.put o.dst (.slice A' (n + 1) c')) w1) :
    wpList P ops Q (o :: rest) a (w.alloc (.cells #[u] e)) := by
  refine wpList_append_own _ hgd s x t ho base e i z 1 bytes ht hi hz hsize hby hzs (by decide) _ n xs hs (hown.alloc _) ⟨w.heap.size, 0, none⟩ 1 1 [u] hx rfl ?_ (by simpa using hu) h63 hbytes (by simp; omega) ?_
  · intro j v hj
    match j, hj with
    | 0, hj => simp at hj; subst hj; simp [Addr.add]
  · intro v' w1 h2 h3 h4
    rcases h2.2 with ⟨rfl, h0⟩ | ⟨g, cap, cur, rfl, hr⟩
    · exact absurd h0 (by omega)
    · refine h _ _ w1 h2 ?_
      exact ⟨h3.os, h3.tape, h3.output, Nat.le_trans (by simp) h3.size, fun k hk hne => (h3.block k (by simp; omega) hne).trans (Below.heap_alloc w _ k hk)⟩
theorem bel_app {B : Nat} {W w w1 : World} {e : TypeId} {size n : Nat} {v : Value} {xs : List Value} (hb : Below B W w) (hown : w.ownsRow B e size v n xs) (hg : w.grownBy w1 v.ownBlock) (hB : B ≤ w.heap.size) : Below B W w1 :=
  hb.grown hg hB fun k hk => (hown.lt k hk).1
theorem app_int {ops : Array Oper} {rest : List Oper} {o : Oper} {a : Act} {Q : Exit → Act → World → Prop} (w : World) (hgd : o.guard = none) (s x : Operand)
    (ho : o.op = .call { callee := .builtin .append, args := #[s, x], argTypes := #[30, 30] }) (base : Nat)
    (A : Option Addr) (n c : Nat) (zs : List Int) (hs : a.eval s = .slice A n c) (hown : OwnI w base A n c zs) (z : Int) (hz : -9223372036854775808 ≤ z) (hz' : z ≤ 9223372036854775807)
    (hx : a.eval x = .slice (some ⟨w.heap.size, 0, none⟩) 1 1) (hn : n ≤ 1099511627776) (hbase : base ≤ w.heap.size)
    (h : ∀ A' c' w1, OwnI w1 base A' (n + 1) c' (zs ++ [z]) → w.grownBy w1 (Value.slice A n c).ownBlock → wpList Tryd.prog ops Q rest (a.put o.dst (.slice A' (n + 1) c')) w1) :
    wpList Tryd.prog ops Q (o :: rest) a (w.alloc (.cells #[.int .i64 z] 2)) := by
  obtain ⟨i0, hi, hz0, hz1, hz2⟩ := info_parts info_int
  refine wp_app1 w hgd s x _ ho base _ i0 _ 8 Tryd.underlying30 hi hz0 hz1 hz2 rfl A n c (vals zs) hs hown.1 (.int .i64 z) rfl hx (by unfold maxLen; omega) (by omega) hbase ?_
  intro A' c' w1 h1 h2
  refine h A' c' w1 ⟨by rw [vals_snoc]; exact h1, fun y hy => ?_⟩ h2
  rcases List.mem_append.1 hy with hy | hy
  · exact hown.2 y hy
  · simp at hy; subst hy; exact WalkArith.wf_i64 ⟨hz, hz'⟩
theorem ownI_lit (w : World) : OwnI (w.alloc (.cells #[] 2)) w.heap.size (some ⟨w.heap.size, 0, none⟩) 0 0 [] :=
  ⟨by simpa [vals] using World.ownsRow_lit (base := w.heap.size) (e := 2) (size := 1) w #[] 0 (Nat.le_refl _) (by unfold maxLen; omega) rfl, by simp⟩
theorem ownI_nil (w : World) (B : Nat) : OwnI w B none 0 0 [] := ⟨World.ownsRow_nil _ _ _ _, by simp⟩
end Go.Proofs.YteehbnanjgmliaaDoor
