/- The strategy for an argument, on both sides. -/
import Derived.Test.YteejfjgofpolkaaStand
import Derived.Test.YteejfjgofpolkaaStepApp
import Derived.Test.YteejfjgofpolkaaPhase
import Derived.BigQuiet
import Derived.Deep.QuietTactic
namespace Go.Proofs.Yteejfjgofpolkaa
set_option linter.unusedVariables false
set_option linter.unusedSimpArgs false
set_option maxRecDepth 100000
open Go.RowKit Go.Deep
theorem lst_succ (n : Nat) (F : Nat → Int) : lst (n + 1) F = lst n F ++ [F n] := by simp [lst, List.range_succ]
/-- Two rows of the call's own and the cells that hold them. -/
structure SI (w : World) (lo g : Nat) (A1 : Option Addr) (k1 c1 : Nat) (z1 : List Int) (A2 : Option Addr) (k2 c2 : Nat) (z2 : List Int) : Prop where
  cs : Cs w g [.slice A1 k1 c1, .slice A2 k2 c2]
  o1 : OwnI w lo A1 k1 c1 z1
  o2 : OwnI w lo A2 k2 c2 z2
  n1 : (Value.slice A1 k1 c1).ownBlock ≠ some g
  n2 : (Value.slice A2 k2 c2).ownBlock ≠ some g
  ap : Apart (.slice A1 k1 c1) (.slice A2 k2 c2)
section
variable {w w1 : World} {lo g : Nat} {A1 : Option Addr} {k1 c1 : Nat} {z1 : List Int} {A2 : Option Addr} {k2 c2 : Nat} {z2 : List Int}
theorem grown_cell (w : World) (g j : Nat) (u : Value) : w.grownBy (w.setCell ⟨g, j, none⟩ u) (some g) := ⟨rfl, rfl, rfl, by simp [World.setCell], fun k _ hk => heap_setCell_other w ⟨g, j, none⟩ k u (fun e => hk (by simp [e]))⟩
theorem OwnI.aside {base : Nat} {A : Option Addr} {n c : Nat} {zs : List Int} (h : OwnI w base A n c zs) (hne : (Value.slice A n c).ownBlock ≠ some g) (j : Nat) (u : Value) : OwnI (w.setCell ⟨g, j, none⟩ u) base A n c zs :=
  h.kept (grown_cell w g j u) (.inr hne)
theorem SI.below (h : SI w lo g A1 k1 c1 z1 A2 k2 c2 z2) (b : Below w.heap.size w w1) : SI w1 lo g A1 k1 c1 z1 A2 k2 c2 z2 := ⟨h.cs.below b, h.o1.below b, h.o2.below b, h.n1, h.n2, h.ap⟩
theorem ne_new {A A' : Option Addr} {n c n' c' : Nat} (h : (Value.slice A n c).ownBlock ≠ some g) (hl : g < w.heap.size) (hn : NewBlk w (.slice A n c) (.slice A' n' c')) : (Value.slice A' n' c').ownBlock ≠ some g := by
  rcases hn with e | ⟨x, e, hx⟩
  · rw [e]; exact h
  · rw [e]; intro e2; injection e2 with e2; omega
theorem SI.app0 (h : SI w lo g A1 k1 c1 z1 A2 k2 c2 z2) {A' : Option Addr} {n' c' : Nat} {z' : List Int} (o : OwnI w1 lo A' n' c' z') (hg : w.grownBy w1 (Value.slice A1 k1 c1).ownBlock) (hn : NewBlk w (.slice A1 k1 c1) (.slice A' n' c')) :
    Cs w1 g [.slice A1 k1 c1, .slice A2 k2 c2] ∧ SI (w1.setCell ⟨g, 0, none⟩ (.slice A' n' c')) lo g A' n' c' z' A2 k2 c2 z2 := by
  have hne := ne_new h.n1 h.cs.1 hn
  have c := h.cs.kept hg (fun e => h.n1 e.symm)
  exact ⟨c, c.set 0 _ (by simp), o.aside hne 0 _, (h.o2.kept_apart h.ap.symm hg).aside h.n2 0 _, hne, h.n2, apart_step h.ap hn fun x hx => (h.o2.block x hx).2⟩
theorem SI.app1 (h : SI w lo g A1 k1 c1 z1 A2 k2 c2 z2) {A' : Option Addr} {n' c' : Nat} {z' : List Int} (o : OwnI w1 lo A' n' c' z') (hg : w.grownBy w1 (Value.slice A2 k2 c2).ownBlock) (hn : NewBlk w (.slice A2 k2 c2) (.slice A' n' c')) :
    Cs w1 g [.slice A1 k1 c1, .slice A2 k2 c2] ∧ SI (w1.setCell ⟨g, 1, none⟩ (.slice A' n' c')) lo g A1 k1 c1 z1 A' n' c' z' := by
  have hne := ne_new h.n2 h.cs.1 hn
  have c := h.cs.kept hg (fun e => h.n2 e.symm)
  exact ⟨c, c.set 1 _ (by simp), (h.o1.kept_apart h.ap hg).aside h.n1 1 _, o.aside hne 1 _, h.n1, hne, (apart_step h.ap.symm hn fun x hx => (h.o1.block x hx).2).symm⟩
end
def rpf (R : Nat → Int) (o x : Int) : Int := if R x.toNat ≠ 0 ∧ (o < 0 ∨ R x.toNat < R o.toNat) then x else o
theorem rpf_def (R : Nat → Int) (o x : Int) : rpf R o x = if R x.toNat ≠ 0 ∧ (o < 0 ∨ R x.toNat < R o.toNat) then x else o := rfl
/-- The reply to an argument: of those that attack it and have a rank, the first one of the least rank. -/
def rp (b : Nat) (R : Nat → Int) (k : Nat) : Int := (bitsTo b k).foldl (rpf R) (-1)
theorem rp_succ (b : Nat) (R : Nat → Int) (k : Nat) : rp b R (k + 1) = if b.testBit k = true then rpf R (rp b R k) (k : Int) else rp b R k := by
  unfold rp
  rw [bitsTo_succ, List.foldl_append]
  cases b.testBit k <;> simp
theorem rp_range (b : Nat) (R : Nat → Int) : ∀ k, rp b R k = -1 ∨ ∃ q : Nat, q < k ∧ rp b R k = q
  | 0 => .inl rfl
  | k + 1 => by
    rw [rp_succ]
    rcases rp_range b R k with h | ⟨q, h1, h2⟩
    · split
      · unfold rpf; split
        · exact .inr ⟨k, by omega, rfl⟩
        · exact .inl h
      · exact .inl h
    · split
      · unfold rpf; split
        · exact .inr ⟨k, by omega, rfl⟩
        · exact .inr ⟨q, by omega, h2⟩
      · exact .inr ⟨q, by omega, h2⟩
theorem rp_end {b n : Nat} (R : Nat → Int) (hn : n ≤ 10) (h : b < 2 ^ n) : rp b R 10 = rp b R n := by unfold rp; rw [bitsTo_end h 10 hn]
def rkF (F : Nat → Int) (a b : Nat) : Int := if F a < F b ∨ F b < 0 then 0 else F b
theorem rkF_nn (F : Nat → Int) (a b : Nat) : 0 ≤ rkF F a b := by unfold rkF; split <;> omega
theorem rkF_congr {n : Nat} {F G : Nat → Int} (h : ∀ a, a < n → F a = G a) {a b : Nat} (ha : a < n) (hb : b < n) : rkF F a b = rkF G a b := by unfold rkF; rw [h a ha, h b hb]
/-- The ranks and the replies of the strategy for an argument. -/
noncomputable def rkL (n : Nat) (es : List (Nat × Nat)) (a : Nat) : List Int := lst n (rkF (rndF n es) a)
noncomputable def rpL (n : Nat) (es : List (Nat × Nat)) (a : Nat) : List Int := lst n fun b => rp (attM es b) (rkF (rndF n es) a) n
theorem acc_bit {n a : Nat} (F : Nat → Int) (ha : a < n) : (accM n F).testBit a = decide (0 < F a) := by unfold accM; rw [mk_bit]; simp [ha]
def GivesT (z1 z2 : List Int) (b : Bool) (w : World) (e : Ending) (w' : World) : Prop := ∃ A c B d, e = .returned (.tuple #[.agg #[.slice A z1.length c, .slice B z2.length d], .bool b]) ∧ OwnI w' w.heap.size A z1.length c z1 ∧ OwnI w' w.heap.size B z2.length d z2 ∧ Apart (.slice A z1.length c) (.slice B z2.length d) ∧ Below w.heap.size w w'
theorem givesT_no {w w' : World} (h : Below w.heap.size w w') : GivesT [] [] false w (.returned (.tuple #[.agg #[.slice none 0 0, .slice none 0 0], .bool false])) w' := ⟨none, 0, none, 0, rfl, ownI_nil _ _, ownI_nil _ _, .inl rfl, h⟩
theorem stratI_no (cnt : Int) (hc1 : -9223372036854775808 ≤ cnt) (hc2 : cnt ≤ 9223372036854775807) (x : Int) (rows : List (List Int)) (hv : (frB cnt rows && inR x 0 (cnt - 1)) = false) (A : Option Addr) (m c : Nat) (w : World) (h : Rws w A m c rows) :
    Calls Try.prog 31 #[.agg #[.int .i64 cnt, .slice A m c], .int .i64 x] w (GivesT [] [] false w) := by
  have b0 := bel_alloc w (.cells #[.int .i64 cnt, .slice A m c] 26)
  have C0 := Cs.new w [.int .i64 cnt, .slice A m c] 26
  have b1 := bel_alloc (w.alloc (.cells #[.int .i64 cnt, .slice A m c] 26)) (.cells #[.slice none 0 0, .slice none 0 0] 39)
  have CT := Lib.hid (Cs.new (w.alloc (.cells #[.int .i64 cnt, .slice A m c] 26)) [.slice none 0 0, .slice none 0 0] 39)
  rw [show (w.alloc (.cells #[.int .i64 cnt, .slice A m c] 26)).heap.size = w.heap.size + 1 by simp] at CT
  have y0 := (C0.below b1).cell 0 rfl
  have y1 := (C0.below b1).cell 1 rfl
  have V := Lib.hid (isArgument_any cnt hc1 hc2 x rows A m c _ (h.below (bel_trans b0 b1)))
  rw [hv] at V
  have B0 := Lib.hid (bel_trans b0 b1)
  clear h C0 b0 b1 hv
  go_enter Try.func31, Try.ntmps31
  go_wp2_with fail
  refine V.out.mono ?_
  rintro e w1 ⟨rfl, u1⟩
  have BT := Lib.hid (bel_trans B0.out u1)
  replace CT := Lib.hid (CT.out.below u1)
  clear u1 V y0 y1
  have K1 := CT.out
  have f0 := K1.free 0 rfl
  have f1 := K1.free 1 rfl
  have p0 := K1.cell 0 rfl
  have p1 := K1.cell 1 rfl
  have K2 := Lib.hid ((K1.set 0 (.slice none 0 0) (by simp)).set 1 (.slice none 0 0) (by simp))
  have BE := Lib.hid ((BT.out.setCell (p := ⟨w.heap.size + 1, 0, none⟩) (by simp) (.slice none 0 0)).setCell (p := ⟨w.heap.size + 1, 1, none⟩) (by simp) (.slice none 0 0))
  clear K1
  go_wp2_with fail
  have r0 := K2.out.cell 0 (v := .slice none 0 0) (by simp)
  have r1 := K2.out.cell 1 (v := .slice none 0 0) (by simp)
  exact bodyPost_ret (v := .tuple #[.agg #[.slice none 0 0, .slice none 0 0], .bool false]) (by simp [results, Try.results31, go_sem, r0, r1]) rfl (givesT_no BE.out)
theorem stratS_no (cnt : Int) (x : Int) (rows : List (List Int)) (hv : (frB cnt rows && inR x 0 (cnt - 1)) = false) (A : Option Addr) (m c : Nat) (w : World) (h : Rws w A m c rows) :
    Calls Try.prog 30 #[.agg #[.int .i64 cnt, .slice A m c], .int .i64 x] w (GivesT [] [] false w) := by
  have b0 := bel_alloc w (.cells #[.int .i64 cnt, .slice A m c] 26)
  have C0 := Cs.new w [.int .i64 cnt, .slice A m c] 26
  have b1 := bel_alloc (w.alloc (.cells #[.int .i64 cnt, .slice A m c] 26)) (.cells #[.slice none 0 0, .slice none 0 0] 39)
  have CT := Lib.hid (Cs.new (w.alloc (.cells #[.int .i64 cnt, .slice A m c] 26)) [.slice none 0 0, .slice none 0 0] 39)
  rw [show (w.alloc (.cells #[.int .i64 cnt, .slice A m c] 26)).heap.size = w.heap.size + 1 by simp] at CT
  have V := Lib.hid (l08Has_any cnt x rows _ A m c _ (C0.below b1) (h.below (bel_trans b0 b1)))
  rw [hv] at V
  have B0 := Lib.hid (bel_trans b0 b1)
  clear h C0 b0 b1 hv
  go_enter Try.func30, Try.ntmps30
  go_wp2_with fail
  refine V.out.mono ?_
  rintro e w1 ⟨rfl, u1⟩
  have BT := Lib.hid (bel_trans B0.out u1)
  replace CT := Lib.hid (CT.out.below u1)
  clear u1 V
  have K1 := CT.out
  have f0 := K1.free 0 rfl
  have f1 := K1.free 1 rfl
  have p0 := K1.cell 0 rfl
  have p1 := K1.cell 1 rfl
  have K2 := Lib.hid ((K1.set 0 (.slice none 0 0) (by simp)).set 1 (.slice none 0 0) (by simp))
  have BE := Lib.hid ((BT.out.setCell (p := ⟨w.heap.size + 1, 0, none⟩) (by simp) (.slice none 0 0)).setCell (p := ⟨w.heap.size + 1, 1, none⟩) (by simp) (.slice none 0 0))
  clear K1
  go_wp2_with fail
  have r0 := K2.out.cell 0 (v := .slice none 0 0) (by simp)
  have r1 := K2.out.cell 1 (v := .slice none 0 0) (by simp)
  exact bodyPost_ret (v := .tuple #[.agg #[.slice none 0 0, .slice none 0 0], .bool false]) (by simp [results, Try.results30, go_sem, r0, r1]) rfl (givesT_no BE.out)
end Go.Proofs.Yteejfjgofpolkaa
