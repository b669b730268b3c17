/- A drawn profile is a valid one. -/
import Derived.Test.YtikcbconfinibaaRkOk
import Derived.Test.YtikcbconfinibaaR8
import Derived.Test.YtikcbconfinibaaCells
import Derived.Deep.Cut
import Derived.Deep.CutBlock
import Derived.Deep.CutRange
namespace Go.Proofs.Ytikcbconfinibaa
set_option linter.unusedVariables false
set_option linter.unusedSimpArgs false
set_option maxRecDepth 100000
open Go.RowKit
/-- A variable of two cells that the call itself made. -/
def BO (t : TypeId) (w : World) (g : Nat) (u0 u1 : Value) : Prop := w.ownsRow g t 2 (.slice (some ⟨g, 0, none⟩) 1 1) 1 [u0, u1]
section
variable {t : TypeId} {w w' : World} {g : Nat} {u0 u1 : Value}
theorem BO.new (t : TypeId) (w : World) (u0 u1 : Value) : BO t (w.alloc (.cells #[u0, u1] t)) w.heap.size u0 u1 := by
  have := World.ownsRow_lit (base := w.heap.size) (e := t) (size := 2) w #[u0, u1] 1 (Nat.le_refl _) (by unfold maxLen; omega) rfl
  simpa [BO] using this
theorem BO.below (h : BO t w g u0 u1) (b : Below w.heap.size w w') : BO t w' g u0 u1 := World.ownsRow.kept (row := none) h ⟨b.os, b.tape, b.output, b.size, fun k hk _ => b.block k hk⟩ (.inr (by simp [Value.ownBlock]))
theorem BO.cells (h : BO t w g u0 u1) : w.cell? ⟨g, 0, none⟩ = some u0 ∧ w.cell? ⟨g, 1, none⟩ = some u1 := by
  have c0 := World.ownsRow.cellAt h 0 (by omega)
  have c1 := World.ownsRow.cellAt h 1 (by omega)
  exact ⟨c0, c1⟩
theorem BO.free (h : BO t w g u0 u1) (j : Nat) : w.frozen? ⟨g, j, none⟩ = false := World.ownsRow.frozenAt h j
theorem BO.lt (h : BO t w g u0 u1) : g < w.heap.size := (World.ownsRow.lt h g rfl).2
theorem BO.set0 (h : BO t w g u0 u1) (u : Value) : BO t (w.setCell ⟨g, 0, none⟩ u) g u u1 ∧ w.grownBy (w.setCell ⟨g, 0, none⟩ u) (some g) := World.ownsRow.stored h 0 u
theorem BO.set1 (h : BO t w g u0 u1) (u : Value) : BO t (w.setCell ⟨g, 1, none⟩ u) g u0 u ∧ w.grownBy (w.setCell ⟨g, 1, none⟩ u) (some g) := World.ownsRow.stored h 1 u
theorem BO.far (h : BO t w g u0 u1) {g2 : Nat} (hg : w.grownBy w' (some g2)) (hne : g ≠ g2) : BO t w' g u0 u1 := World.ownsRow.kept h hg (.inr (by simp [Value.ownBlock]; exact hne))
theorem BO.off (h : BO t w g u0 u1) {row : Option Nat} (hg : w.grownBy w' row) (hne : ∀ x, row = some x → g ≠ x) : BO t w' g u0 u1 := World.ownsRow.kept h hg (.inr (by
  simp only [Value.ownBlock]
  intro e
  exact hne g e.symm rfl))
theorem grown_set (w : World) (g j : Nat) (u : Value) : w.grownBy (w.setCell ⟨g, j, none⟩ u) (some g) := ⟨rfl, rfl, rfl, by simp [World.setCell], fun k _ hk => heap_setCell_other w ⟨g, j, none⟩ k u (fun e => hk (by simp [e]))⟩
theorem size_put (w : World) (g j : Nat) (u : Value) : (w.setCell ⟨g, j, none⟩ u).heap.size = w.heap.size := by simp [World.setCell]
theorem le_put {w : World} {n gP : Nat} {v : Value} (h : n ≤ w.heap.size) : n ≤ (w.setCell ⟨gP, 0, none⟩ v).heap.size := by rw [size_put]; exact h
theorem BO.keep (h : BO t w g u0 u1) {base e s n k : Nat} {v : Value} {xs : List Value} (o : w.ownsRow base e s v k xs) (hg : w.grownBy w' v.ownBlock) (hne : t ≠ e) : BO t w' g u0 u1 := World.ownsRow.kept h hg (own_ne h o hne)
theorem BO.keeps (h : BO t w g u0 u1) {base e s n k : Nat} {v : Value} {xs : List Value} (o : w.ownsRow base e s v k xs) (hg : w.grownBy w' (some g)) (hne : e ≠ t) : w'.ownsRow base e s v k xs := o.kept hg (own_ne o h hne)
end
/-- A profile that is built up. -/
structure PS (w : World) (lo g : Nat) (A1 : Option Addr) (k1 c1 : Nat) (vs : List Value) (zss : List (List Int)) (A2 : Option Addr) (k2 c2 : Nat) (ws : List Int) : Prop where
  b : BO 27 w g (.slice A1 k1 c1) (.slice A2 k2 c2)
  m : OwnM w lo A1 k1 c1 vs zss
  o : OwnI w lo A2 k2 c2 ws
  ap : ∀ v ∈ vs, Apart v (.slice A2 k2 c2)
section
variable {w w1 : World} {lo g : Nat} {A1 : Option Addr} {k1 c1 : Nat} {vs : List Value} {zss : List (List Int)} {A2 : Option Addr} {k2 c2 : Nat} {ws : List Int}
theorem PS.below (h : PS w lo g A1 k1 c1 vs zss A2 k2 c2 ws) (hb : Below w.heap.size w w1) : PS w1 lo g A1 k1 c1 vs zss A2 k2 c2 ws := ⟨h.b.below hb, h.m.below hb, h.o.below hb, h.ap⟩
/-- A block below lo is written. -/
theorem PS.src (h : PS w lo g A1 k1 c1 vs zss A2 k2 c2 ws) {gs : Nat} (hg : w.grownBy w1 (some gs)) (h1 : gs < lo) (h2 : g ≠ gs) : PS w1 lo g A1 k1 c1 vs zss A2 k2 c2 ws :=
  ⟨h.b.far hg h2, h.m.kept_out hg (fun r e => by injection e with e; omega), h.o.kept hg (by
    cases hv : (Value.slice A2 k2 c2).ownBlock with
    | none => exact .inl rfl
    | some x => exact .inr (fun e => by injection e with e; have := (h.o.block x hv).1; omega)), h.ap⟩
theorem OwnM.setB {t : TypeId} {u0 u1 : Value} (h : OwnM w lo A1 k1 c1 vs zss) (b : BO t w g u0 u1) (hg : w.grownBy w1 (some g)) (h1 : 25 ≠ t) (h2 : 2 ≠ t) : OwnM w1 lo A1 k1 c1 vs zss := by
  refine h.kept hg (own_ne h.outer b h1) fun v hv => ?_
  obtain ⟨j, hj, rfl⟩ := List.getElem_of_mem hv
  have hl : j < zss.length := by have := h.len; have := h.vlen; omega
  obtain ⟨A', c', hv', ho⟩ := h.row j _ (List.getElem?_eq_getElem hl)
  have e1 : vs[j] = .slice A' (zss[j]).length c' := by
    have := List.getElem?_eq_getElem hj
    rw [hv'] at this; simpa using this.symm
  rw [e1]
  exact own_ne ho.1 b h2
theorem PS.app0 (h : PS w lo g A1 k1 c1 vs zss A2 k2 c2 ws) {A' : Option Addr} {n' c' : Nat} {v : Value} {z : List Int} (m : OwnM w1 lo A' n' c' (vs ++ [v]) (zss ++ [z])) (hg : w.grownBy w1 (Value.slice A1 k1 c1).ownBlock) (hv : Apart v (.slice A2 k2 c2)) :
    BO 27 w1 g (.slice A1 k1 c1) (.slice A2 k2 c2) ∧ PS (w1.setCell ⟨g, 0, none⟩ (.slice A' n' c')) lo g A' n' c' (vs ++ [v]) (zss ++ [z]) A2 k2 c2 ws := by
  have b1 := h.b.keep (n := 0) h.m.outer hg (by decide)
  have o1 := h.o.kept hg (own_ne h.o.1 h.m.outer (by decide))
  obtain ⟨s1, s2⟩ := b1.set0 (.slice A' n' c')
  refine ⟨b1, s1, m.setB b1 s2 (by decide) (by decide), ⟨b1.keeps (n := 0) o1.1 s2 (by decide), o1.2⟩, fun x hx => ?_⟩
  rcases List.mem_append.1 hx with hx | hx
  · exact h.ap x hx
  · simp at hx; subst hx; exact hv
theorem PS.app1 (h : PS w lo g A1 k1 c1 vs zss A2 k2 c2 ws) {A' : Option Addr} {n' c' : Nat} {z' : List Int} (o : OwnI w1 lo A' n' c' z') (hg : w.grownBy w1 (Value.slice A2 k2 c2).ownBlock) (hn : NewBlk w (.slice A2 k2 c2) (.slice A' n' c')) :
    BO 27 w1 g (.slice A1 k1 c1) (.slice A2 k2 c2) ∧ PS (w1.setCell ⟨g, 1, none⟩ (.slice A' n' c')) lo g A1 k1 c1 vs zss A' n' c' z' := by
  have b1 := h.b.keep (n := 0) h.o.1 hg (by decide)
  have m1 := h.m.kept hg (own_ne h.m.outer h.o.1 (by decide)) fun v hv => h.ap v hv
  obtain ⟨s1, s2⟩ := b1.set1 (.slice A' n' c')
  refine ⟨b1, s1, m1.setB b1 s2 (by decide) (by decide), ⟨b1.keeps (n := 0) o.1 s2 (by decide), o.2⟩, fun x hx => ?_⟩
  exact (apart_step (h.ap x hx).symm hn fun r hr => (h.m.blocks x hx r hr).2).symm
end
/-! ### a drawn ranking -/
theorem l04First_ok (n : Nat) (hn : n ≤ 6) (w : World) :
    Calls Try.prog 52 #[.int .i64 n] w fun e w' => ∃ A c, e = .returned (.slice A n c) ∧ OwnI w' w.heap.size A n c (zr (List.range n)) ∧ Below w.heap.size w w' := by
  have OL := Lib.hid (ownI_lit w)
  have BL := Lib.hid (bel_alloc w (.cells #[] 2))
  go_enter Try.func52, Try.ntmps52
  go_wp2_with fail
  go_loopw [3, 4] (fun s t wr => ∃ (k : Nat) (A : Option Addr) (c : Nat), k ≤ n ∧ s = .slice A k c ∧ t = .int .i64 k ∧ OwnI wr w.heap.size A k c (zr (List.range k)) ∧ Below w.heap.size w wr) (fun _ t _ => n - (intOf t).toNat)
  case atStart => exact ⟨0, _, 0, Nat.zero_le _, rfl, rfl, OL.out, BL.out⟩
  case round =>
    obtain ⟨k, A, c, hk, rfl, rfl, hO, hB⟩ := hrel
    have O1 := Lib.hid hO
    have B1 := Lib.hid hB
    have hs := hB.size
    clear hO hB OL BL
    by_cases hlt : k < n
    · have d0 := decide_eq_true (show (k : Int) < (n : Int) by omega)
      go_wp2_with (at_builtin; refine app_int wr rfl _ _ rfl w.heap.size A k c _ rfl O1.out (k : Int) (by omega) (by omega) rfl (by omega) hs ?_; intro A' c' w1 p1 p2; have P1 := Lib.hid p1; have B2 := Lib.hid (B1.out.grown p2 hs (fun x hx => (O1.out.block x hx).1)); clear p1 p2)
      go_roundw
      case rel => exact ⟨k + 1, A', c', by omega, rfl, by go_num, by rw [List.range_succ]; simpa [zr] using P1.out, B2.out⟩
      case measure => simp [intOf]; omega
    · obtain rfl : n = k := by omega
      have d0 := decide_eq_false (show ¬ (n : Int) < (n : Int) by omega)
      go_wp2_with fail
      go_ret
      exact ⟨A, c, rfl, O1.out, B1.out⟩
theorem zr_set (r : List Nat) (i y : Nat) : zr (r.set i y) = (zr r).set i (y : Int) := by simp [zr, List.map_set]
theorem swap_zr {m p j x y : Nat} {r : List Nat} (h : r.Perm (List.range m)) (hx : r[p]? = some x) (hy : r[j]? = some y) : ((r.set p y).set j x).Perm (List.range m) := by
  obtain ⟨h1, rfl⟩ := List.getElem?_eq_some_iff.1 hx
  obtain ⟨h2, rfl⟩ := List.getElem?_eq_some_iff.1 hy
  exact (List.set_set_perm h1 h2).trans h
def DrawnR (m : Nat) (g : Nat) (A : Option Addr) (n c : Nat) (bs : List Int) (k : Nat) (w : World) (e : Ending) (w' : World) : Prop :=
  ∃ (r : List Nat) (R : Option Addr) (d k' : Nat), e = .returned (.slice R m d) ∧ r.Perm (List.range m) ∧ OwnI w' w.heap.size R m d (zr r) ∧ k' ≤ k + 12 ∧ Src w' g A n c bs k' ∧ w.grownBy w' (some g)
set_option maxHeartbeats 1000000 in
theorem l06DrawRanking_any (m : Nat) (m1 : 1 ≤ m) (m6 : m ≤ 6) (g : Nat) (A : Option Addr) (n c : Nat) (bs : List Int) (k : Nat) (hk : k ≤ 1099511626000) (w : World) (h : Src w g A n c bs k) :
    Calls Try.prog 44 #[.pointer (some ⟨g, 0, none⟩), .int .i64 m] w (DrawnR m g A n c bs k w) := by
  have gl := h.lt
  have HS := Lib.hid h
  clear h
  go_enter Try.func44, Try.ntmps44
  go_wp2_with fail
  refine (l04First_ok m m6 w).mono ?_
  rintro e w1 ⟨R, d, rfl, o1, b1⟩
  have O1 := Lib.hid o1
  have S1 := Lib.hid (HS.out.kept b1)
  have G1 := Lib.hid (show w.grownBy w1 (some g) from ⟨b1.os, b1.tape, b1.output, b1.size, fun k hk _ => b1.block k hk⟩)
  clear o1 b1 HS
  obtain ⟨gR, rfl, r1, r2⟩ := O1.out.form (by omega)
  go_wp2_with fail
  go_loopw [6] (fun t wr => ∃ (j : Nat) (r : List Nat) (k' : Nat), j < m ∧ t = .int .i64 j ∧ r.Perm (List.range m) ∧ OwnI wr w.heap.size (some ⟨gR, 0, none⟩) m d (zr r) ∧ k' + 2 * j ≤ k + 2 * m ∧ Src wr g A n c bs k' ∧ w.grownBy wr (some g)) (fun t _ => (intOf t).toNat)
  case atStart => exact ⟨m - 1, List.range m, k, by omega, by first | rfl | go_num | (congr 1; omega), List.Perm.refl _, O1.out, by omega, S1.out, G1.out⟩
  case round =>
    obtain ⟨j, r, k', hj, rfl, hp, hO, hk', hS, hG⟩ := hrel
    have HP := Lib.hid hp
    have O2 := Lib.hid hO
    have S2 := Lib.hid hS
    have G2 := Lib.hid hG
    clear hp hO hS hG O1 S1 G1
    by_cases hj0 : 0 < j
    · have d0 := decide_eq_true (show (0 : Int) < (j : Int) by omega)
      go_wp2_with fail
      refine (pick_any ((j : Int) + 1) g A n c bs k' _ S2.out (by omega) (by omega) (by omega)).mono ?_
      rintro e w2 ⟨p, k2, rfl, hpp, k20, k21, hs2, hg2⟩
      obtain ⟨p0, p1⟩ := hpp.lt (by omega)
      obtain ⟨p, rfl⟩ := Int.eq_ofNat_of_zero_le p0
      have lr : r.length = m := by have := HP.out.length_eq; simpa using this
      have O3 := O2.out.kept hg2 (.inr (by simp [Value.ownBlock]; omega))
      obtain ⟨x, hx⟩ : ∃ x, r[p]? = some x := ⟨_, List.getElem?_eq_getElem (by omega)⟩
      obtain ⟨y, hy⟩ : ∃ y, r[j]? = some y := ⟨_, List.getElem?_eq_getElem (by omega)⟩
      have xm : x < m := List.mem_range.1 (HP.out.mem_iff.1 (List.mem_of_getElem? hx))
      have ym : y < m := List.mem_range.1 (HP.out.mem_iff.1 (List.mem_of_getElem? hy))
      have cx := O3.cell (zr_at hx)
      have cy := O3.cell (zr_at hy)
      have fp := O3.free p
      have fj := O3.free j
      have P2 := Lib.hid (swap_zr HP.out hx hy)
      obtain ⟨t1, t2⟩ := O3.set p (y : Int) (by omega) (by omega)
      obtain ⟨t3, t4⟩ := t1.set j (x : Int) (by omega) (by omega)
      have O4 := Lib.hid (show OwnI ((w2.setCell ⟨gR, p, none⟩ (.int .i64 y)).setCell ⟨gR, j, none⟩ (.int .i64 x)) w.heap.size (some ⟨gR, 0, none⟩) m d (zr ((r.set p y).set j x)) from by
        rw [zr_set, zr_set]; exact t3)
      have S4 := Lib.hid ((hs2.grown t2 (fun r hr => by injection hr with hr; omega)).grown t4 (fun r hr => by injection hr with hr; omega))
      have G4 := Lib.hid (only_new (only_new (grown_trans G2.out hg2) t2 (fun r hr => by injection hr with hr; omega)) t4 (fun r hr => by injection hr with hr; omega))
      have q0 : (0 : Int) ≤ (p : Int) := by omega
      have q1 : (p : Int) < (m : Int) := by omega
      have j0 : (0 : Int) ≤ (j : Int) := by omega
      have j1 : (j : Int) < (m : Int) := by omega
      have EQX := Lib.hid (fun e : p = j => (show x = y from by subst e; rw [hx] at hy; injection hy))
      clear hs2 hg2 hpp O3 t1 t2 t3 t4 hx hy S2 G2 O2
      by_cases hpj : p = j
      · obtain rfl : x = y := EQX.out hpj
        subst hpj
        clear EQX
        go_wp2_with fail
        go_roundw
        case rel => exact ⟨p - 1, _, k2, by omega, by go_num, P2.out, O4.out, by omega, S4.out, G4.out⟩
        case measure => simp [intOf]; omega
      · have hpj2 : ¬ j = p := fun e => hpj e.symm
        go_wp2_with fail
        go_roundw
        case rel => exact ⟨j - 1, _, k2, by omega, by go_num, P2.out, O4.out, by omega, S4.out, G4.out⟩
        case measure => simp [intOf]; omega
    · have d0 := decide_eq_false (show ¬ (0 : Int) < (j : Int) by omega)
      go_wp2_with fail
      go_ret
      exact ⟨r, some ⟨gR, 0, none⟩, d, k', rfl, HP.out, O2.out, by omega, S2.out, G2.out⟩
/-! ### a drawn profile -/
def DrawnP (g : Nat) (A : Option Addr) (n c : Nat) (bs : List Int) (w : World) (e : Ending) (w' : World) : Prop :=
  ∃ (m : Nat) (rs : List (List Nat)) (ws : List Int) (RA : Option Addr) (rc : Nat) (vs : List Value) (WA : Option Addr) (wc : Nat),
    e = .returned (.agg #[.slice RA rs.length rc, .slice WA rs.length wc]) ∧ PrOk m rs ws ∧ OwnM w' w.heap.size RA rs.length rc vs (rs.map zr) ∧ OwnI w' w.heap.size WA rs.length wc ws ∧ w.grownBy w' (some g)
/-- What has been drawn of a profile. -/
structure PrT (m : Nat) (rs : List (List Nat)) (ws : List Int) : Prop where
  lw : ws.length = rs.length
  perm : ∀ r ∈ rs, r.Perm (List.range m)
  wt : ∀ z ∈ ws, 0 ≤ z ∧ z ≤ 1000
theorem PrT.snoc {m : Nat} {rs : List (List Nat)} {ws : List Int} (h : PrT m rs ws) {r : List Nat} (hr : r.Perm (List.range m)) {z : Int} (hz : 0 ≤ z ∧ z ≤ 1000) : PrT m (rs ++ [r]) (ws ++ [z]) :=
  ⟨by simp [h.lw], fun x hx => by
    rcases List.mem_append.1 hx with hx | hx
    · exact h.perm x hx
    · simp at hx; subst hx; exact hr, fun x hx => by
    rcases List.mem_append.1 hx with hx | hx
    · exact h.wt x hx
    · simp at hx; subst hx; exact hz⟩
set_option maxHeartbeats 4000000 in
theorem l06DrawOk_any (g : Nat) (A : Option Addr) (n c : Nat) (bs : List Int) (w : World) (h : Src w g A n c bs 0) :
    Calls Try.prog 29 #[.pointer (some ⟨g, 0, none⟩)] w (DrawnP g A n c bs w) := by
  have gl := h.lt
  have g0 : w.grownBy (w.alloc (.cells #[.slice none 0 0, .slice none 0 0] 27)) (some g) := World.grownBy_alloc _ _ _
  have R0 := Lib.hid (BO.new 27 w (.slice none 0 0) (.slice none 0 0))
  have S0 := Lib.hid (h.kept (bel_alloc w (.cells #[.slice none 0 0, .slice none 0 0] 27)))
  have G0 := Lib.hid g0
  have sz0 : (w.alloc (.cells #[.slice none 0 0, .slice none 0 0] 27)).heap.size = w.heap.size + 1 := by simp
  clear h g0
  go_enter Try.func29, Try.ntmps29
  go_wp2_with fail
  refine (pick_any 5 g A n c bs 0 _ S0.out (by omega) (by omega) (by omega)).mono ?_
  rintro e w1 ⟨p, k1, rfl, hp, k10, k11, hs1, hg1⟩
  obtain ⟨p0, p1⟩ := hp.lt (by omega)
  obtain ⟨p, rfl⟩ := Int.eq_ofNat_of_zero_le p0
  have sz1 := hg1.size
  have R1 := Lib.hid (R0.out.far hg1 (by omega))
  have G1 := Lib.hid (grown_trans G0.out hg1)
  have S1 := Lib.hid hs1
  clear hp hs1 hg1 S0 G0 R0
  go_wp2_with fail
  refine (one_any 6 g A n c bs k1 _ S1.out (by omega) (by omega) (by omega)).mono ?_
  rintro e w2 ⟨r, k2, rfl, k20, k21, hs2, hg2⟩
  have sz2 := hg2.size
  have R2 := Lib.hid (R1.out.far hg2 (by omega))
  have G2 := Lib.hid (grown_trans G1.out hg2)
  have S2 := Lib.hid hs2
  clear hs2 hg2 S1 G1 R1
  go_upto_if 12 with fail
  go_cut [3] from 8 (fun s wc => (∃ m : Nat, 1 ≤ m ∧ m ≤ 6 ∧ s = .int .i64 m) ∧ w2 = wc)
  case first =>
    cases r
    · go_wp2_with fail
      go_meet
      case rel => exact ⟨⟨p + 1, by omega, by omega, by rw [Int.natCast_add, Int.add_comm]; rfl⟩, rfl⟩
    · go_wp2_with fail
      go_meet
      case rel => exact ⟨⟨6, by omega, by omega, rfl⟩, rfl⟩
  case rest =>
  obtain ⟨⟨m, m1, m6, rfl⟩, rfl⟩ := hcut
  have bA := bel_alloc w2 (.cells #[] 25)
  have bB := bel_alloc (w2.alloc (.cells #[] 25)) (.cells #[] 2)
  have bC := bel_alloc ((w2.alloc (.cells #[] 25)).alloc (.cells #[] 2)) (.cells #[.slice (some ⟨w2.heap.size, 0, none⟩) 0 0, .slice (some ⟨w2.heap.size + 1, 0, none⟩) 0 0] 27)
  have sB : (w2.alloc (.cells #[] 25)).heap.size = w2.heap.size + 1 := by simp
  have sC : ((w2.alloc (.cells #[] 25)).alloc (.cells #[] 2)).heap.size = w2.heap.size + 2 := by simp
  have oI := ownI_lit (w2.alloc (.cells #[] 25))
  have bO := BO.new 27 ((w2.alloc (.cells #[] 25)).alloc (.cells #[] 2)) (.slice (some ⟨w2.heap.size, 0, none⟩) 0 0) (.slice (some ⟨w2.heap.size + 1, 0, none⟩) 0 0)
  rw [sB] at oI
  rw [sC] at bO
  have bABC := bel_trans bA (bel_trans bB bC)
  have P3 := Lib.hid (show PS (((w2.alloc (.cells #[] 25)).alloc (.cells #[] 2)).alloc (.cells #[.slice (some ⟨w2.heap.size, 0, none⟩) 0 0, .slice (some ⟨w2.heap.size + 1, 0, none⟩) 0 0] 27)) (w.heap.size + 1) (w2.heap.size + 2) (some ⟨w2.heap.size, 0, none⟩) 0 0 [] [] (some ⟨w2.heap.size + 1, 0, none⟩) 0 0 [] from
    ⟨bO, ((ownM_lit w2).below (bel_trans bB bC)).mono (by omega), (oI.below bC).mono (by omega), by simp⟩)
  have R3 := Lib.hid (R2.out.below bABC)
  have S3 := Lib.hid (S2.out.kept bABC)
  have G3 := Lib.hid (only_new G2.out (show w2.grownBy (((w2.alloc (.cells #[] 25)).alloc (.cells #[] 2)).alloc (.cells #[.slice (some ⟨w2.heap.size, 0, none⟩) 0 0, .slice (some ⟨w2.heap.size + 1, 0, none⟩) 0 0] 27)) none from ⟨bABC.os, bABC.tape, bABC.output, bABC.size, fun k hk _ => bABC.block k hk⟩) (fun r hr => by cases hr))
  have sz3 : (((w2.alloc (.cells #[] 25)).alloc (.cells #[] 2)).alloc (.cells #[.slice (some ⟨w2.heap.size, 0, none⟩) 0 0, .slice (some ⟨w2.heap.size + 1, 0, none⟩) 0 0] 27)).heap.size = w2.heap.size + 3 := by simp
  clear bA bB bC sB sC oI bO bABC S2 R2 G2
  go_wp2_with fail
  refine (pick_any 6 g A n c bs k2 _ S3.out (by omega) (by omega) (by omega)).mono ?_
  rintro e w4 ⟨q, k4, rfl, hq, k40, k41, hs4, hg4⟩
  obtain ⟨q0, q1⟩ := hq.lt (by omega)
  obtain ⟨q, rfl⟩ := Int.eq_ofNat_of_zero_le q0
  have sz4 := hg4.size
  have P4 := Lib.hid (P3.out.src hg4 (by omega) (by omega))
  have R4 := Lib.hid (R3.out.far hg4 (by omega))
  have G4 := Lib.hid (grown_trans G3.out hg4)
  have S4 := Lib.hid hs4
  clear hs4 hg4 hq S3 G3 R3 P3
  go_wp2_with fail
  refine (one_any 12 g A n c bs k4 _ S4.out (by omega) (by omega) (by omega)).mono ?_
  rintro e w5 ⟨r2, k5, rfl, k50, k51, hs5, hg5⟩
  have sz5 := hg5.size
  have P5 := Lib.hid (P4.out.src hg5 (by omega) (by omega))
  have R5 := Lib.hid (R4.out.far hg5 (by omega))
  have G5 := Lib.hid (grown_trans G4.out hg5)
  have S5 := Lib.hid hs5
  clear hs5 hg5 S4 G4 R4 P4
  go_upto_if 20 with fail
  go_cut [5] from 8 (fun s wc => (∃ mm : Nat, 1 ≤ mm ∧ mm ≤ 12 ∧ s = .int .i64 mm) ∧ w5 = wc)
  case first =>
    cases r2
    · go_wp2_with fail
      go_meet
      case rel => exact ⟨⟨q + 1, by omega, by omega, by rw [Int.natCast_add, Int.add_comm]; rfl⟩, rfl⟩
    · go_wp2_with fail
      go_meet
      case rel => exact ⟨⟨12, by omega, by omega, rfl⟩, rfl⟩
  case rest =>
  obtain ⟨⟨mm, mm1, mm12, rfl⟩, rfl⟩ := hcut
  obtain ⟨gP, hgP⟩ : ∃ z, w2.heap.size + 2 = z := ⟨_, rfl⟩
  rw [hgP] at P5
  have gP1 : g < gP ∧ w.heap.size < gP := by omega
  have k5b : k5 ≤ 20 := by omega
  have hgP2 : w2.heap.size + 1 + 1 = gP := hgP
  rw [hgP2]
  clear hgP hgP2
  go_wp2_with fail
  go_loopw [5] (fun t wr => ∃ (j : Nat) (rs : List (List Nat)) (ws : List Int) (A1 : Option Addr) (c1 : Nat) (vs : List Value) (A2 : Option Addr) (c2 k' : Nat), t = .int .i64 j ∧ j + rs.length = mm ∧ PrT m rs ws ∧ PS wr (w.heap.size + 1) gP A1 rs.length c1 vs (rs.map zr) A2 rs.length c2 ws ∧ k' + 20 * j ≤ 300 ∧ Src wr g A n c bs k' ∧ BO 27 wr w.heap.size (.slice none 0 0) (.slice none 0 0) ∧ w.grownBy wr (some g)) (fun t _ => (intOf t).toNat)
  case atStart => exact ⟨mm, [], [], _, 0, [], _, 0, k5, rfl, by simp, ⟨rfl, by simp, by simp⟩, P5.out, by omega, S5.out, R5.out, G5.out⟩
  case round =>
    obtain ⟨j, rs, ws, A1, c1, vs, A2, c2, k', rfl, hj, hT, hP, hk', hS, hR, hG⟩ := hrel
    have T6 := Lib.hid hT
    have P6 := Lib.hid hP
    have S6 := Lib.hid hS
    have R6 := Lib.hid hR
    have G6 := Lib.hid hG
    have sz6 := hG.size
    have HJ := Lib.hid hj
    have rl : rs.length ≤ 12 := by omega
    clear hT hP hS hR hG hj S5 R5 G5 P5
    by_cases hj0 : 0 < j
    · have d0 := decide_eq_true (show (0 : Int) < (j : Int) by omega)
      go_wp2_with fail
      refine (l06DrawRanking_any m m1 m6 g A n c bs k' (by omega) _ S6.out).mono ?_
      rintro e w7 ⟨r, RR, d, k7, rfl, hp, oR, k7b, hs7, hg7⟩
      have sz7 := hg7.size
      have HP7 := Lib.hid hp
      have O7 := Lib.hid oR
      have P7 := Lib.hid (P6.out.src hg7 (by omega) (by omega))
      have R7 := Lib.hid (R6.out.far hg7 (by omega))
      have G7 := Lib.hid (grown_trans G6.out hg7)
      have AP := Lib.hid (apart_new (base := 0) (vs := vs) (fun v hv g' hg' => (P6.out.m.blocks v hv g' hg').2) oR)
      have AW := Lib.hid (show Apart (.slice RR m d) (.slice A2 rs.length c2) from (apart_new (base := 0) (vs := [.slice A2 rs.length c2]) (fun v hv g' hg' => by simp at hv; subst hv; exact (P6.out.o.block g' hg').2) oR _ (by simp)).symm)
      have S7 := Lib.hid hs7
      have R6' := R6.out.lt
      clear hp oR hs7 hg7 S6 R6 G6
      go_wp2_with fail
      refine (pick_any 7 g A n c bs k7 _ S7.out (by omega) (by omega) (by omega)).mono ?_
      rintro e w8 ⟨z, k8, rfl, hz, k80, k81, hs8, hg8⟩
      obtain ⟨z0, z1⟩ := hz.lt (by omega)
      have sz8 := hg8.size
      have P8 := Lib.hid (P7.out.src hg8 (by omega) (by omega))
      have R8 := Lib.hid (R7.out.far hg8 (by omega))
      have G8 := Lib.hid (grown_trans G7.out hg8)
      have O8 := Lib.hid (O7.out.kept hg8 (by
        cases hv : (Value.slice RR m d).ownBlock with
        | none => exact .inl rfl
        | some x => exact .inr (fun e => by injection e with e; have := (O7.out.block x hv).1; omega)))
      have S8 := Lib.hid hs8
      clear hs8 hg8 hz S7 R7 G7 P7 O7
      go_wp2_with fail
      refine (one_any 20 g A n c bs k8 _ S8.out (by omega) (by omega) (by omega)).mono ?_
      rintro e w9 ⟨r3, k9, rfl, k90, k91, hs9, hg9⟩
      have sz9 := hg9.size
      have P9 := Lib.hid (P8.out.src hg9 (by omega) (by omega))
      have R9 := Lib.hid (R8.out.far hg9 (by omega))
      have G9 := Lib.hid (grown_trans G8.out hg9)
      have O9 := Lib.hid ((O8.out.kept hg9 (by
        cases hv : (Value.slice RR m d).ownBlock with
        | none => exact .inl rfl
        | some x => exact .inr (fun e => by injection e with e; have := (O8.out.block x hv).1; omega))).mono (b2 := w.heap.size + 1) (by have := R6'; omega))
      have S9 := Lib.hid hs9
      clear hs9 hg9 S8 R8 G8 P8 O8
      go_upto_if 31 with fail
      go_cut [7] from 25 to 43 (fun s wc => (∃ y : Int, 0 ≤ y ∧ y ≤ 1000 ∧ s = .int .i64 y) ∧ w9 = wc)
      case first =>
        cases r3
        · go_wp2_with fail
          go_meet
          case rel => exact ⟨⟨z, by omega, by omega, rfl⟩, rfl⟩
        · go_wp2_with fail
          go_meet
          case rel => exact ⟨⟨1000, by omega, by omega, rfl⟩, rfl⟩
      case rest =>
      obtain ⟨⟨y, y0, y1, rfl⟩, rfl⟩ := hcut
      have q0 := P9.out.b.cells.1
      have lo9 : w.heap.size + 1 ≤ w9.heap.size := by have := R6'; omega
      have rl40 : rs.length ≤ 1099511627776 := by omega
      have yb0 : -9223372036854775808 ≤ y := by omega
      have yb1 : y ≤ 9223372036854775807 := by omega
      have T7 := Lib.hid (T6.out.snoc HP7.out ⟨y0, y1⟩)
      have LR := Lib.hid (show (rs ++ [r]).length = rs.length + 1 by simp)
      have MR := Lib.hid (show (rs ++ [r]).map zr = rs.map zr ++ [zr r] by simp)
      go_wp2_with (first | (at_builtin; refine app_row w9 rfl _ _ rfl (w.heap.size + 1) A1 rs.length c1 vs (rs.map zr) rfl P9.out.m RR m d (zr r) O9.out AP.out rfl rl40 lo9 ?_; intro A7 c7 wA p1 p2; obtain ⟨BX, PX⟩ := P9.out.app0 p1 p2 AW.out; have PX' := Lib.hid PX; have MB := Lib.hid (P9.out.m.block); have GA := Lib.hid p2; have fx := BX.free 0; have cx := BX.cells.1; have cx1 := BX.cells.2; have SZA := Lib.hid (size_put wA gP 0 (.slice A7 (rs.length + 1) c7)); have loA := le_put (gP := gP) (v := .slice A7 (rs.length + 1) c7) (Nat.le_trans lo9 p2.size); clear p1 p2 BX PX) | (at_builtin; refine app_int_at (wA.setCell ⟨gP, 0, none⟩ (.slice A7 (rs.length + 1) c7)) rfl _ _ rfl (w.heap.size + 1) A2 rs.length c2 ws rfl PX'.out.o y yb0 yb1 (by rw [SZA.out]; rfl) rl40 loA ?_; intro A8 c8 wB p1 p2 p3; obtain ⟨BY, PY⟩ := PX'.out.app1 p1 p2 p3; have PY' := Lib.hid PY; have WB := Lib.hid (PX'.out.o.block); have GB := Lib.hid p2; have fy := BY.free 1; have cy := BY.cells.2; clear p1 p2 p3 BY PY))
      have st1 := (grown_set wA gP 0 (.slice A7 (rs.length + 1) c7))
      have st2 := (grown_set wB gP 1 (.slice A8 (rs.length + 1) c8))
      have na : ∀ x, (Value.slice A1 rs.length c1).ownBlock = some x → g < x ∧ w.heap.size ≠ x := fun x hx => by have := (MB.out x hx).1; omega
      have nb : ∀ x, (Value.slice A2 rs.length c2).ownBlock = some x → g < x ∧ w.heap.size ≠ x := fun x hx => by have := (WB.out x hx).1; omega
      have np : ∀ x, some gP = some x → g < x ∧ w.heap.size ≠ x := fun x hx => by injection hx with hx; omega
      have SE := Lib.hid ((((S9.out.grown GA.out (fun x hx => (na x hx).1)).grown st1 (fun x hx => (np x hx).1)).grown GB.out (fun x hx => (nb x hx).1)).grown st2 (fun x hx => (np x hx).1))
      have RE := Lib.hid ((((R9.out.off GA.out (fun x hx => (na x hx).2)).off st1 (fun x hx => (np x hx).2)).off GB.out (fun x hx => (nb x hx).2)).off st2 (fun x hx => (np x hx).2))
      have GE := Lib.hid (only_new (only_new (only_new (only_new G9.out GA.out (fun x hx => by have := (MB.out x hx).1; omega)) st1 (fun x hx => by injection hx with hx; omega)) GB.out (fun x hx => by have := (WB.out x hx).1; omega)) st2 (fun x hx => by injection hx with hx; omega))
      have hj1 := HJ.out
      clear st1 st2 na nb np fx cx cx1 fy cy
      go_wp2_with fail
      go_roundw
      case rel => exact ⟨j - 1, rs ++ [r], ws ++ [y], A7, c7, vs ++ [.slice RR m d], A8, c8, k9, by go_num, by rw [LR.out]; omega, T7.out, by rw [LR.out, MR.out]; exact PY'.out, by omega, SE.out, RE.out, GE.out⟩
      case measure => simp [intOf]; omega
    · have d0 := decide_eq_false (show ¬ (0 : Int) < (j : Int) by omega)
      obtain rfl : 0 = j := by omega
      have c0 := P6.out.b.cells.1
      have c1' := P6.out.b.cells.2
      have rc0 := R6.out.cells.1
      have rc1 := R6.out.cells.2
      have rf0 := R6.out.free 0
      have rf1 := R6.out.free 1
      obtain ⟨s1, s2⟩ := R6.out.set0 (.slice A1 rs.length c1)
      obtain ⟨s3, s4⟩ := s1.set1 (.slice A2 rs.length c2)
      have PE := Lib.hid ((P6.out.src s2 (by omega) (by omega)).src s4 (by omega) (by omega))
      have GE := Lib.hid (only_new (only_new G6.out s2 (fun r hr => by injection hr with hr; omega)) s4 (fun r hr => by injection hr with hr; omega))
      have RE0 := Lib.hid s3.cells.1
      have RE1 := Lib.hid s3.cells.2
      clear s1 s2 s3 s4
      go_wp2_with fail
      obtain ⟨w9, hw9⟩ : ∃ z, (wr.setCell ⟨w.heap.size, 0, none⟩ (.slice A1 rs.length c1)).setCell ⟨w.heap.size, 1, none⟩ (.slice A2 rs.length c2) = z := ⟨_, rfl⟩
      rw [hw9] at PE GE RE0 RE1 ⊢
      have re0 := RE0.out
      have re1 := RE1.out
      exact bodyPost_ret (v := .agg #[.slice A1 rs.length c1, .slice A2 rs.length c2]) (by simp [results, Try.results29, go_sem, re0, re1]) rfl ⟨m, rs, ws, A1, c1, vs, A2, c2, rfl, ⟨m1, m6, by have := HJ.out; omega, by have := HJ.out; omega, T6.out.lw, T6.out.perm, T6.out.wt⟩, PE.out.m.mono (by omega), PE.out.o.mono (by omega), GE.out⟩
end Go.Proofs.Ytikcbconfinibaa
