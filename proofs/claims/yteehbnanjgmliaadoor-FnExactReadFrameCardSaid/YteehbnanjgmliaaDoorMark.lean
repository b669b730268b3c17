/- Contracts of the laws' helpers that write marks into a slice of the call's own and look whether they are still there. -/
import Derived.Test.YteehbnanjgmliaaDoorInts
import Derived.Test.YteehbnanjgmliaaDoorFold
namespace Go.Proofs.YteehbnanjgmliaaDoor
set_option linter.unusedVariables false
open Go.RowKit

/-- The numbers k, k + 1, .., n of them. -/
def iota (k : Int) (n : Nat) : List Int := (List.range n).map fun i => k + (i : Nat)
theorem iota_length (k : Int) (n : Nat) : (iota k n).length = n := by simp [iota]
theorem iota_at {k : Int} {n j : Nat} (h : j < n) : (iota k n)[j]? = some (k + j) := by simp [iota, h]
theorem iota_mem {k z : Int} {n : Nat} (h : z ∈ iota k n) : k ≤ z ∧ z < k + n := by
  simp only [iota, List.mem_map, List.mem_range] at h
  obtain ⟨i, hi, rfl⟩ := h
  omega

theorem OwnI.len {w : World} {base : Nat} {A : Option Addr} {n c : Nat} {zs : List Int} (h : OwnI w base A n c zs) : zs.length = n := by
  have := h.1.1; simpa [vals] using this
theorem OwnI.form {w : World} {base : Nat} {A : Option Addr} {n c : Nat} {zs : List Int} (h : OwnI w base A n c zs) (hn : 0 < n) : ∃ g, A = some ⟨g, 0, none⟩ ∧ base ≤ g ∧ g < w.heap.size := by
  rcases h.1.2 with ⟨hv, h0⟩ | ⟨g, cap, cur, hv, hb, hg, _⟩
  · omega
  · simp only [Value.slice.injEq, true_and] at hv
    exact ⟨g, hv.1, hb, (Array.getElem?_eq_some_iff.1 hg).1⟩
theorem OwnI.block {w : World} {base : Nat} {A : Option Addr} {n c : Nat} {zs : List Int} (h : OwnI w base A n c zs) : ∀ g, (Value.slice A n c).ownBlock = some g → base ≤ g ∧ g < w.heap.size := h.1.lt
/-- Kept where another row is written. -/
theorem OwnI.kept {w w' : World} {base : Nat} {A : Option Addr} {n c : Nat} {zs : List Int} {row : Option Nat} (h : OwnI w base A n c zs) (hg : w.grownBy w' row) (hne : (Value.slice A n c).ownBlock = none ∨ (Value.slice A n c).ownBlock ≠ row) : OwnI w' base A n c zs :=
  ⟨h.1.kept hg hne, h.2⟩
theorem OwnI.below {w w' : World} {base : Nat} {A : Option Addr} {n c : Nat} {zs : List Int} (h : OwnI w base A n c zs) (hb : Below w.heap.size w w') : OwnI w' base A n c zs :=
  h.kept (row := none) ⟨hb.os, hb.tape, hb.output, hb.size, fun k hk _ => hb.block k hk⟩ (by cases (Value.slice A n c).ownBlock <;> simp)
/-- A row that was there before the other one was made. -/
theorem OwnI.kept_old {w w' : World} {base b2 : Nat} {A : Option Addr} {n c : Nat} {zs : List Int} {A' : Option Addr} {n' c' : Nat} {ys : List Int} (h : OwnI w base A n c zs) (h' : OwnI w b2 A' n' c' ys)
    (hlt : ∀ g, (Value.slice A n c).ownBlock = some g → g < b2) (hg : w.grownBy w' (Value.slice A' n' c').ownBlock) : OwnI w' base A n c zs := by
  refine h.kept hg ?_
  cases hv : (Value.slice A n c).ownBlock with
  | none => exact .inl rfl
  | some g =>
    refine .inr fun e => ?_
    have h1 := (h'.block g e.symm).1
    have h2 := hlt g hv
    omega
theorem OwnI.kept_new {w w' : World} {base : Nat} {A : Option Addr} {n c : Nat} {zs : List Int} {A' : Option Addr} {n' c' : Nat} (h : OwnI w base A n c zs)
    (hlt : ∀ g, (Value.slice A' n' c').ownBlock = some g → g < base) (hg : w.grownBy w' (Value.slice A' n' c').ownBlock) : OwnI w' base A n c zs := by
  refine h.kept hg ?_
  cases hv : (Value.slice A n c).ownBlock with
  | none => exact .inl rfl
  | some g =>
    refine .inr fun e => ?_
    have h1 := (h.block g hv).1
    have h2 := hlt g e.symm
    omega
theorem Ints.kept {w w' : World} {A : Option Addr} {n c : Nat} {zs : List Int} {row : Option Nat} (h : Ints .i64 w A n c zs) (hg : w.grownBy w' row)
    (hne : ∀ a, A = some a → some a.block ≠ row) : Ints .i64 w' A n c zs := by
  obtain ⟨h1, h2, h3, h4, h5⟩ := h
  refine ⟨h1, h2, h3, h4, fun hn => ?_⟩
  obtain ⟨b, off, hA, hbk, hc⟩ := h5 hn
  refine ⟨b, off, hA, Nat.lt_of_lt_of_le hbk hg.size, fun j z hz => ?_⟩
  rw [World.cell?_of_block (w := w) (hg.block b hbk (hne _ hA))]
  exact hc j z hz
theorem Ints.kept_own {w w' : World} {A : Option Addr} {n c : Nat} {zs : List Int} {b2 : Nat} {A' : Option Addr} {n' c' : Nat} {ys : List Int} (h : Ints .i64 w A n c zs) (h' : OwnI w b2 A' n' c' ys)
    (hg : w.grownBy w' (Value.slice A' n' c').ownBlock) (hlt : ∀ a, A = some a → a.block < b2) : Ints .i64 w' A n c zs :=
  h.kept hg fun a ha e => by
    have := (h'.block _ e.symm).1
    have := hlt a ha
    omega
theorem grown_trans {a b c : World} {row : Option Nat} (h : a.grownBy b row) (k : b.grownBy c row) : a.grownBy c row :=
  ⟨k.os.trans h.os, k.tape.trans h.tape, k.output.trans h.output, Nat.le_trans h.size k.size, fun i hi hne => (k.block i (Nat.lt_of_lt_of_le hi h.size) hne).trans (h.block i hi hne)⟩
theorem grown_refl (w : World) (row : Option Nat) : w.grownBy w row := ⟨rfl, rfl, rfl, Nat.le_refl _, fun _ _ _ => rfl⟩
theorem bel_grown {W w w' : World} {base : Nat} {A : Option Addr} {n c : Nat} {zs : List Int} (hb : Below W.heap.size W w) (h : OwnI w base A n c zs) (hB : W.heap.size ≤ base) (hg : w.grownBy w' (Value.slice A n c).ownBlock) : Below W.heap.size W w' :=
  hb.grown hg hb.size fun k hk => Nat.le_trans hB (h.block k hk).1

/-- The row while it is being marked: the first j numbers are marks. -/
theorem mark_set {zs : List Int} {k : Int} {j : Nat} (h : j < zs.length) : (iota k j ++ zs.drop j).set j (k + j) = iota k (j + 1) ++ zs.drop (j + 1) := by
  rw [List.set_append_right _ _ (by simp [iota_length]), iota_length, Nat.sub_self, List.drop_eq_getElem_cons h, List.set_cons_zero]
  simp [iota, List.range_succ]
theorem vals_set (zs : List Int) (j : Nat) (z : Int) : (vals zs).set j (.int .i64 z) = vals (zs.set j z) := by simp [vals, List.map_set]
theorem OwnI.set {w : World} {base g n c : Nat} {zs : List Int} (h : OwnI w base (some ⟨g, 0, none⟩) n c zs) (j : Nat) (z : Int) (h1 : -9223372036854775808 ≤ z) (h2 : z ≤ 9223372036854775807) :
    OwnI (w.setCell ⟨g, j, none⟩ (.int .i64 z)) base (some ⟨g, 0, none⟩) n c (zs.set j z) ∧ w.grownBy (w.setCell ⟨g, j, none⟩ (.int .i64 z)) (some g) := by
  obtain ⟨a, b⟩ := h.1.stored j (.int .i64 z)
  refine ⟨⟨by rw [← vals_set]; exact a, fun y hy => ?_⟩, b⟩
  rcases List.mem_or_eq_of_mem_set hy with hy | rfl
  · exact h.2 y hy
  · exact WalkArith.wf_i64 ⟨h1, h2⟩
theorem OwnI.cell {w : World} {base g n c : Nat} {zs : List Int} (h : OwnI w base (some ⟨g, 0, none⟩) n c zs) {j : Nat} {z : Int} (hz : zs[j]? = some z) : w.cell? ⟨g, j, none⟩ = some (.int .i64 z) := by
  have := h.1.cells (g := g) rfl j _ (vals_at hz)
  rwa [Addr.add_lit, Nat.zero_add] at this
theorem OwnI.free {w : World} {base g n c : Nat} {zs : List Int} (h : OwnI w base (some ⟨g, 0, none⟩) n c zs) (j : Nat) : w.frozen? ⟨g, j, none⟩ = false := h.1.frozenAt j

/-- A slice and whether it is one. -/
def GivesI (zs : List Int) (b : Bool) (w : World) (e : Ending) (w' : World) : Prop :=
  ∃ A c, e = .returned (.tuple #[.slice A zs.length c, .bool b]) ∧ OwnI w' w.heap.size A zs.length c zs ∧ Below w.heap.size w w'
theorem OwnI.mono {w : World} {base b2 : Nat} {A : Option Addr} {n c : Nat} {zs : List Int} (h : OwnI w base A n c zs) (hb : b2 ≤ base) : OwnI w b2 A n c zs := by
  refine ⟨⟨h.1.1, ?_⟩, h.2⟩
  rcases h.1.2 with h1 | ⟨g, cap, cur, hv, hg, r⟩
  · exact .inl h1
  · exact .inr ⟨g, cap, cur, hv, Nat.le_trans hb hg, r⟩
/-- What markInt64S leaves. -/
def MarkedI (base : Nat) (A : Option Addr) (n c : Nat) (k : Int) (w : World) (e : Ending) (w' : World) : Prop :=
  e = .returned (.int .i64 (k + n)) ∧ OwnI w' base A n c (iota k n) ∧ w.grownBy w' (Value.slice A n c).ownBlock
theorem markInt64S_any (base : Nat) (A : Option Addr) (n c : Nat) (zs : List Int) (k : Int) (w : World) (h : OwnI w base A n c zs) (h0 : 0 ≤ k) (h1 : k ≤ 1099511627776) (h2 : n ≤ 1099511627776) :
    Calls Tryd.prog 27 #[.slice A n c, .int .i64 k] w (MarkedI base A n c k w) := by
  have hl := Lib.hid h.len
  go_enter Tryd.func27, Tryd.ntmps27
  go_wp2_with fail
  go_loopw [1, 5] (fun kk i wr => ∃ j : Nat, j ≤ n ∧ i = .int .i64 j ∧ kk = .int .i64 (k + j) ∧ OwnI wr base A n c (iota k j ++ zs.drop j) ∧ w.grownBy wr (Value.slice A n c).ownBlock) (fun _ i _ => n - (intOf i).toNat)
  case atStart => exact ⟨0, Nat.zero_le _, rfl, by simp, by simpa [iota] using h, grown_refl _ _⟩
  case round =>
    obtain ⟨j, hj, rfl, rfl, hown, hgr⟩ := hrel
    by_cases hlt : j < n
    · obtain ⟨g, rfl, hg1, hg2⟩ := hown.form (by omega)
      obtain ⟨u, hu⟩ : ∃ u, wr.cell? ⟨g, j, none⟩ = some u := by
        have e1 : j < (iota k j ++ zs.drop j).length := by have := hl.out; simp [iota_length]; omega
        exact ⟨_, hown.cell (List.getElem?_eq_getElem e1)⟩
      have hfr := hown.free j
      have hs := Lib.hid (hown.set j (k + j) (by omega) (by omega))
      have Hown := Lib.hid hown
      clear hown
      go_wp2_with fail
      go_roundw
      case rel =>
        refine ⟨j + 1, by omega, by go_num, by go_num, ?_, grown_trans hgr hs.out.2⟩
        have := hs.out.1
        rwa [mark_set (by rw [hl.out]; omega)] at this
      case measure => simp [intOf]; omega
    · have Hown := Lib.hid hown
      clear hown
      obtain rfl : j = n := by omega
      go_wp2_with fail
      go_ret
      refine ⟨rfl, ?_, hgr⟩
      have := Hown.out
      rwa [List.drop_of_length_le (by rw [hl.out]; omega), List.append_nil] at this
theorem heldInt64S_any (A : Option Addr) (n c : Nat) (k : Int) (w : World) (h : Ints .i64 w A n c (iota k n)) (h0 : 0 ≤ k) (h1 : k ≤ 1099511627776) (h2 : n ≤ 1099511627776) :
    Calls Tryd.prog 28 #[.slice A n c, .int .i64 k] w fun e w' => e = .returned (.int .i64 (k + n)) ∧ Below w.heap.size w w' := by
  go_enter Tryd.func28, Tryd.ntmps28
  go_wp2_with fail
  go_loopw [1, 5] (fun kk i wr => ∃ j : Nat, j ≤ n ∧ i = .int .i64 j ∧ kk = .int .i64 (k + j) ∧ Below w.heap.size w wr) (fun _ i _ => n - (intOf i).toNat)
  case atStart => exact ⟨0, Nat.zero_le _, rfl, by simp, Below.refl _ _⟩
  case round =>
    obtain ⟨j, hj, rfl, rfl, hbel⟩ := hrel
    by_cases hlt : j < n
    · obtain ⟨b, off, z, rfl, hb, hcell, hz1, hz2, hz⟩ := (h.below hbel).at hlt
      obtain rfl : z = k + j := by have := hz.out; rw [iota_at hlt] at this; simp at this; exact this.symm
      go_wp2_with fail
      go_roundw
      case rel => exact ⟨j + 1, by omega, by go_num, by go_num, hbel⟩
      case measure => simp [intOf]; omega
    · obtain rfl : j = n := by omega
      go_wp2_with fail
      go_ret
      exact ⟨rfl, hbel⟩
end Go.Proofs.YteehbnanjgmliaaDoor
