/- An option raised by one place in one ranking. -/
import Derived.Test.YtikcbconfinibaaRkRev
import Derived.Test.YtikcbconfinibaaRkWin
import Derived.Test.YtikcbconfinibaaRkUp
namespace Go.Proofs.Ytikcbconfinibaa
set_option linter.unusedVariables false
set_option linter.unusedSimpArgs false
set_option maxRecDepth 100000
open Go.RowKit Go.Deep
theorem isOption_ok (n : Nat) (rs : List (List Nat)) (ws : List Int) (ok : PrOk n rs ws) (x : Nat) (hx : x < n) (RA : Option Addr) (rc : Nat) (WA : Option Addr) (wc : Nat) (w : World) (h : PrV w RA rc WA wc rs ws) :
    Calls Try.prog 35 #[.agg #[.slice RA rs.length rc, .slice WA rs.length wc], .int .i64 x] w fun e w' => e = .returned (.bool true) ∧ Below w.heap.size w w' := by
  have n1 := ok.n1
  have n6 := ok.n6
  have ba := bel_alloc w (.cells #[.slice RA rs.length rc, .slice WA rs.length wc] 27)
  have CB := Lib.hid (Cs.new w [.slice RA rs.length rc, .slice WA rs.length wc] 27)
  have BB := Lib.hid ba
  have H := Lib.hid (h.below ba)
  have OK := Lib.hid ok
  have y0 := CB.out.cell 0 rfl
  have y1 := CB.out.cell 1 rfl
  clear ba h ok
  go_enter Try.func35, Try.ntmps35
  go_wp2_with fail
  refine (validProfile_ok n rs ws OK.out RA rc WA wc _ H.out).mono ?_
  rintro e w1 ⟨rfl, b1⟩
  have CB1 := Lib.hid (CB.out.below b1)
  have BB1 := Lib.hid (bel_trans BB.out b1)
  have H1 := Lib.hid (H.out.below b1)
  clear b1 y0 y1 CB BB H
  have y0 := CB1.out.cell 0 rfl
  have y1 := CB1.out.cell 1 rfl
  go_wp2_with fail
  refine (options_ok n rs ws OK.out RA rc WA wc _ H1.out).mono ?_
  rintro e w2 ⟨rfl, b2⟩
  have BB2 := Lib.hid (bel_trans BB1.out b2)
  have HN := Lib.hid (show inR (x : Int) 0 ((n : Int) - 1) = true from inR_true.2 (by omega))
  clear b2 y0 y1 CB1 BB1 H1
  go_wp2_with fail
  refine (within_any _ _ _ _).mono ?_
  rintro e w3 ⟨rfl, rfl⟩
  rw [HN.out]
  go_wp2_with fail
  go_ret
  exact ⟨rfl, BB2.out⟩
theorem index_ok (r : List Nat) (nd : r.Nodup) {i x : Nat} (hx : r[i]? = some x) (A : Option Addr) (n c : Nat) (w : World) (h : Ints .i64 w A n c (zr r)) :
    Calls Try.prog 37 #[.slice A n c, .int .i64 x] w fun e w' => e = .returned (.int .i64 i) ∧ w = w' := by
  have hm := h.short
  have hl := h.1
  rw [zr_len] at hl
  have HX := Lib.hid hx
  have ND := Lib.hid nd
  have il : i < n := by rw [← hl]; exact (List.getElem?_eq_some_iff.1 hx).1
  clear hx nd hl
  go_enter Try.func37, Try.ntmps37
  go_wp2_with fail
  go_loop [8] (fun t => ∃ k : Nat, k ≤ i ∧ t = .int .i64 k) (fun t => n - (intOf t).toNat)
  case atStart => exact ⟨0, Nat.zero_le _, rfl⟩
  case round =>
    obtain ⟨k, hk, rfl⟩ := hrel
    have d0 := decide_eq_true (show (k : Int) < (n : Int) by omega)
    have k0 : (0 : Int) ≤ (k : Int) := by omega
    have k1 : (k : Int) < (n : Int) := by omega
    obtain ⟨b, off, z, rfl, hb, hcell, hz1, hz2, hz⟩ := h.at (j := k) (by omega)
    obtain ⟨y, hy, rfl⟩ := zr_at' hz.out
    have HY := Lib.hid hy
    clear hz hy
    by_cases hki : k = i
    · subst hki
      obtain rfl : y = x := by have := HY.out; rw [HX.out] at this; injection this with this; exact this.symm
      have e1 : ((y : Int) == (y : Int)) = true := by simp
      go_wp2_with fail
      go_ret
      exact ⟨rfl, rfl⟩
    · have hne : y ≠ x := fun e => by
        subst e
        obtain ⟨h1, e1⟩ := List.getElem?_eq_some_iff.1 HY.out
        obtain ⟨h2, e2⟩ := List.getElem?_eq_some_iff.1 HX.out
        have := List.pairwise_iff_getElem.1 ND.out k i h1 h2 (by omega)
        exact this (e1.trans e2.symm)
      have e1 : ((x : Int) == (y : Int)) = false := by show decide _ = false; exact decide_eq_false (by omega)
      clear hne
      go_wp2_with fail
      go_round
      case rel => exact ⟨k + 1, by omega, by go_num⟩
      case measure => simp [intOf]; omega
theorem r8Index_ok (r : List Nat) (nd : r.Nodup) {i x : Nat} (hx : r[i]? = some x) (A : Option Addr) (n c : Nat) (w : World) (h : Ints .i64 w A n c (zr r)) :
    Calls Try.prog 16 #[.slice A n c, .int .i64 x] w fun e w' => e = .returned (.int .i64 i) ∧ w = w' := by
  have hm := h.short
  have hl := h.1
  rw [zr_len] at hl
  have HX := Lib.hid hx
  have ND := Lib.hid nd
  have il : i < n := by rw [← hl]; exact (List.getElem?_eq_some_iff.1 hx).1
  clear hx nd hl
  go_enter Try.func16, Try.ntmps16
  go_wp2_with fail
  go_loop [5] (fun t => ∃ k : Nat, k ≤ i ∧ t = .int .i64 k) (fun t => n - (intOf t).toNat)
  case atStart => exact ⟨0, Nat.zero_le _, rfl⟩
  case round =>
    obtain ⟨k, hk, rfl⟩ := hrel
    have d0 := decide_eq_true (show (k : Int) < (n : Int) by omega)
    have k0 : (0 : Int) ≤ (k : Int) := by omega
    have k1 : (k : Int) < (n : Int) := by omega
    obtain ⟨b, off, z, rfl, hb, hcell, hz1, hz2, hz⟩ := h.at (j := k) (by omega)
    obtain ⟨y, hy, rfl⟩ := zr_at' hz.out
    have HY := Lib.hid hy
    clear hz hy
    by_cases hki : k = i
    · subst hki
      obtain rfl : y = x := by have := HY.out; rw [HX.out] at this; injection this with this; exact this.symm
      have e1 : ((y : Int) == (y : Int)) = true := by simp
      go_wp2_with fail
      go_ret
      exact ⟨rfl, rfl⟩
    · have hne : y ≠ x := fun e => by
        subst e
        obtain ⟨h1, e1⟩ := List.getElem?_eq_some_iff.1 HY.out
        obtain ⟨h2, e2⟩ := List.getElem?_eq_some_iff.1 HX.out
        have := List.pairwise_iff_getElem.1 ND.out k i h1 h2 (by omega)
        exact this (e1.trans e2.symm)
      have e1 : ((y : Int) == (x : Int)) = false := by show decide _ = false; exact decide_eq_false (by omega)
      clear hne
      go_wp2_with fail
      go_round
      case rel => exact ⟨k + 1, by omega, by go_num⟩
      case measure => simp [intOf]; omega
def RaiseR (rs : List (List Nat)) (ws : List Int) (k : Nat) (r : List Nat) (i x : Nat) (w : World) (e : Ending) (w' : World) : Prop :=
  (i = 0 ∧ e = .returned (.tuple #[.agg #[.slice none 0 0, .slice none 0 0], .bool false]) ∧ Below w.heap.size w w') ∨ (∃ j y, i = j + 1 ∧ r[j]? = some y ∧ RevP (rs.set k (up r j x y)) ws w e w')
theorem zss_set (rs : List (List Nat)) (k : Nat) (r : List Nat) : (rs.map zr).set k (zr r) = (rs.set k r).map zr := by rw [List.map_set]
set_option maxHeartbeats 2000000 in
theorem raise_ok (n : Nat) (rs : List (List Nat)) (ws : List Int) (ok : PrOk n rs ws) {k i x : Nat} {r : List Nat} (hr : rs[k]? = some r) (hx : r[i]? = some x) (RA : Option Addr) (rc : Nat) (WA : Option Addr) (wc : Nat) (w : World) (h : PrV w RA rc WA wc rs ws) :
    Calls Try.prog 17 #[.agg #[.slice RA rs.length rc, .slice WA rs.length wc], .int .i64 k, .int .i64 x] w (RaiseR rs ws k r i x w) := by
  have n1 := ok.n1
  have n6 := ok.n6
  have m1 := ok.m1
  have m12 := ok.m12
  have hlk : k < rs.length := (List.getElem?_eq_some_iff.1 hr).1
  have lr := ok.len (List.mem_of_getElem? hr)
  have il : i < n := by rw [← lr]; exact (List.getElem?_eq_some_iff.1 hx).1
  have xn := ok.lt (List.mem_of_getElem? hr) (List.mem_of_getElem? hx)
  have ND := Lib.hid (ok.nodup (List.mem_of_getElem? hr))
  have HR := Lib.hid hr
  have HX := Lib.hid hx
  have HN := Lib.hid (show inR (k : Int) 0 ((rs.length : Int) - 1) = true from inR_true.2 (by omega))
  have ba := bel_alloc w (.cells #[.slice RA rs.length rc, .slice WA rs.length wc] 27)
  have bb := bel_alloc (w.alloc (.cells #[.slice RA rs.length rc, .slice WA rs.length wc] 27)) (.cells #[.slice none 0 0, .slice none 0 0] 27)
  have C0 := (Cs.new w [.slice RA rs.length rc, .slice WA rs.length wc] 27)
  have R0 := BO.new 27 (w.alloc (.cells #[.slice RA rs.length rc, .slice WA rs.length wc] 27)) (.slice none 0 0) (.slice none 0 0)
  have sA : (w.alloc (.cells #[.slice RA rs.length rc, .slice WA rs.length wc] 27)).heap.size = w.heap.size + 1 := by simp
  rw [sA] at R0
  have CB := Lib.hid (C0.below bb)
  have RB := Lib.hid R0
  have BB := Lib.hid (bel_trans ba bb)
  have H := Lib.hid (h.below (bel_trans ba bb))
  have OK := Lib.hid ok
  have sz : ((w.alloc (.cells #[.slice RA rs.length rc, .slice WA rs.length wc] 27)).alloc (.cells #[.slice none 0 0, .slice none 0 0] 27)).heap.size = w.heap.size + 2 := by simp
  have y0 := CB.out.cell 0 rfl
  have y1 := CB.out.cell 1 rfl
  have k0 : (0 : Int) ≤ (k : Int) := by omega
  have k1 : (k : Int) < (rs.length : Int) := by omega
  clear ba bb C0 R0 sA h ok hr hx
  go_enter Try.func17, Try.ntmps17
  go_wp2_with fail
  refine (isOption_ok n rs ws OK.out x xn RA rc WA wc _ H.out).mono ?_
  rintro e w1 ⟨rfl, b1⟩
  have CB1 := Lib.hid (CB.out.below b1)
  have RB1 := Lib.hid (RB.out.below b1)
  have BB1 := Lib.hid (bel_trans BB.out b1)
  have H1 := Lib.hid (H.out.below b1)
  have sz1 := b1.size
  rw [sz] at sz1
  clear b1 y0 y1 CB RB BB H
  have y0 := CB1.out.cell 0 rfl
  have y1 := CB1.out.cell 1 rfl
  go_wp2_with fail
  refine (within_any _ _ _ _).mono ?_
  rintro e w3 ⟨rfl, rfl⟩
  rw [HN.out]
  go_wp2_with fail
  refine (cloneProfile_ok n rs ws OK.out RA rc WA wc _ H1.out).mono ?_
  rintro e w2 ⟨g, rc', vs, WA', wc', rfl, oM, oI, hap, b2⟩
  have BO7 := BO.new 27 w2 (.slice (some ⟨g, 0, none⟩) rs.length rc') (.slice WA' rs.length wc')
  have b7 := bel_alloc w2 (.cells #[.slice (some ⟨g, 0, none⟩) rs.length rc', .slice WA' rs.length wc'] 27)
  have sz2 := b2.size
  have P8 := Lib.hid (show PS (w2.alloc (.cells #[.slice (some ⟨g, 0, none⟩) rs.length rc', .slice WA' rs.length wc'] 27)) w1.heap.size w2.heap.size (some ⟨g, 0, none⟩) rs.length rc' vs (rs.map zr) WA' rs.length wc' ws from
    ⟨BO7, oM.below b7, oI.below b7, hap⟩)
  have R8 := Lib.hid ((RB1.out.below b2).below b7)
  have B8 := Lib.hid (bel_trans BB1.out (bel_trans b2 b7))
  obtain ⟨gP, hgP⟩ : ∃ z, w2.heap.size = z := ⟨_, rfl⟩
  have gP2 : w.heap.size + 2 ≤ gP := by omega
  have y2 := P8.out.b.cells.1
  have y3 := P8.out.b.cells.2
  have gl8 := P8.out.b.lt
  rw [hgP] at P8 y2 y3 gl8
  have HGP := Lib.hid hgP
  obtain ⟨g', A', c', zs, e, g1, g2, hz, hcell, ho, hv⟩ := P8.out.m.at hlk
  simp only [Option.some.injEq, Addr.mk.injEq, and_true] at e
  subst e
  have hzz := hz.out
  rw [List.getElem?_map, HR.out] at hzz
  injection hzz with hzz
  subst hzz
  rw [zr_len, lr] at hcell ho hv
  have HO := Lib.hid ho
  have HV := Lib.hid hv
  clear BO7 b7 oM oI hap b2 y0 y1 CB1 RB1 BB1 H1 hgP sz2 hz ho hv HN
  go_wp2_with fail
  rw [HGP.out]
  refine (index_ok r ND.out HX.out A' n c' _ HO.out.ints).mono ?_
  rintro e w4 ⟨rfl, rfl⟩
  clear y2 y3 hcell
  by_cases hi : i = 0
  · subst hi
    have r0 := R8.out.cells.1
    have r1 := R8.out.cells.2
    have f0 := R8.out.free 0
    have f1 := R8.out.free 1
    obtain ⟨s1, s2⟩ := R8.out.set0 (.slice none 0 0)
    obtain ⟨s3, s4⟩ := s1.set1 (.slice none 0 0)
    obtain ⟨w9, hw9⟩ : ∃ z, w2.alloc (.cells #[.slice (some ⟨g, 0, none⟩) rs.length rc', .slice WA' rs.length wc'] 27) = z := ⟨_, rfl⟩
    rw [hw9] at R8 B8 r0 r1 f0 f1 s1 s2 s3 s4
    rw [hw9]
    have BE := Lib.hid ((B8.out.setCell (p := ⟨w.heap.size + 1, 0, none⟩) (show w.heap.size ≤ w.heap.size + 1 by omega) (.slice none 0 0)).setCell (p := ⟨w.heap.size + 1, 1, none⟩) (show w.heap.size ≤ w.heap.size + 1 by omega) (.slice none 0 0))
    have RE0 := Lib.hid s3.cells.1
    have RE1 := Lib.hid s3.cells.2
    clear s1 s2 s3 s4 P8 HO gl8 g2 hw9
    go_wp2_with fail
    obtain ⟨wE, hwE⟩ : ∃ z, (w9.setCell ⟨w.heap.size + 1, 0, none⟩ (.slice none 0 0)).setCell ⟨w.heap.size + 1, 1, none⟩ (.slice none 0 0) = z := ⟨_, rfl⟩
    rw [hwE] at BE RE0 RE1 ⊢
    have re0 := RE0.out
    have re1 := RE1.out
    exact bodyPost_ret (v := .tuple #[.agg #[.slice none 0 0, .slice none 0 0], .bool false]) (by simp [results, Try.results17, go_sem, re0, re1]) rfl (.inl ⟨rfl, rfl, BE.out⟩)
  · obtain ⟨j, rfl⟩ : ∃ j, i = j + 1 := ⟨i - 1, by omega⟩
    obtain ⟨gR, rfl, u1, u2⟩ := HO.out.form (by omega)
    obtain ⟨y, hy⟩ : ∃ y, r[j]? = some y := ⟨_, List.getElem?_eq_getElem (by omega)⟩
    have yn : y < n := OK.out.lt (List.mem_of_getElem? HR.out) (List.mem_of_getElem? hy)
    have PU := Lib.hid (OK.out.up HR.out hy HX.out)
    have cx := HO.out.cell (zr_at HX.out)
    have cy := HO.out.cell (zr_at hy)
    have fx := HO.out.free (j + 1)
    have fy := HO.out.free j
    obtain ⟨t1, t2⟩ := HO.out.set j (x : Int) (by omega) (by omega)
    obtain ⟨t3, t4⟩ := t1.set (j + 1) (y : Int) (by omega) (by omega)
    have EU := Lib.hid (show ((zr r).set j (x : Int)).set (j + 1) (y : Int) = zr (up r j x y) from by unfold up; rw [zr_set, zr_set])
    rw [EU.out] at t3
    have HY := Lib.hid hy
    have O9 := Lib.hid t3
    have G9 := Lib.hid (grown_trans t2 t4)
    clear t1 t2 t3 t4 EU hy
    have e0 : ((((j + 1 : Nat) : Int)) == 0) = false := by show decide _ = false; exact decide_eq_false (by omega)
    have wj : IntKind.i64.wrap (((j + 1 : Nat) : Int) - 1) = (j : Int) := by rw [show ((j + 1 : Nat) : Int) - 1 = (j : Int) by omega]; exact IntWalk.i64_in _ (by omega)
    have j0 : (0 : Int) ≤ (j : Int) := by omega
    have j1 : (j : Int) < (n : Int) := by omega
    have i0 : (0 : Int) ≤ ((j + 1 : Nat) : Int) := by omega
    have i1 : ((j + 1 : Nat) : Int) < (n : Int) := by omega
    have ij : ¬ j = j + 1 := by omega
    have ji : ¬ j + 1 = j := by omega
    obtain ⟨w9, hw9⟩ : ∃ z, w2.alloc (.cells #[.slice (some ⟨g, 0, none⟩) rs.length rc', .slice WA' rs.length wc'] 27) = z := ⟨_, rfl⟩
    rw [hw9] at R8 B8 P8 O9 G9 HO cx cy fx fy gl8 g2
    rw [hw9]
    clear hw9 hi
    go_wp2_with fail
    go_region
    have DR : ∀ W : World, Below W.heap.size W W.drew := fun W => ⟨rfl, rfl, rfl, Nat.le_refl _, fun _ _ => rfl⟩
    have p10 := Lib.hid ((P8.out.turn HV.out.out HO.out O9.out G9.out).below (DR _))
    have r10 := Lib.hid ((R8.out.off G9.out (fun q hq => by injection hq with hq; omega)).below (DR _))
    have b10 := Lib.hid (bel_trans (B8.out.grown G9.out B8.out.size (fun q hq => by injection hq with hq; omega)) (DR _))
    obtain ⟨w7, hw7⟩ : ∃ z, ((w9.setCell ⟨gR, j, none⟩ (.int .i64 x)).setCell ⟨gR, j + 1, none⟩ (.int .i64 y)).drew = z := ⟨_, rfl⟩
    rw [hw7] at p10 r10 b10 ⊢
    clear hw7 P8 R8 B8 HO O9 G9 cx cy fx fy gl8 g2
    have q0 := p10.out.b.cells.1
    have q1 := p10.out.b.cells.2
    have r0 := r10.out.cells.1
    have r1 := r10.out.cells.2
    have f0 := r10.out.free 0
    have f1 := r10.out.free 1
    obtain ⟨s1, s2⟩ := r10.out.set0 (.slice (some ⟨g, 0, none⟩) rs.length rc')
    obtain ⟨s3, s4⟩ := s1.set1 (.slice WA' rs.length wc')
    have PE := Lib.hid ((p10.out.src s2 (by omega) (by omega)).src s4 (by omega) (by omega))
    have VE := Lib.hid (show PrV ((w7.setCell ⟨w.heap.size + 1, 0, none⟩ (.slice (some ⟨g, 0, none⟩) rs.length rc')).setCell ⟨w.heap.size + 1, 1, none⟩ (.slice WA' rs.length wc')) (some ⟨g, 0, none⟩) rc' WA' wc' (rs.set k (up r j x y)) ws from by
      refine ⟨?_, ?_⟩
      · have := PE.out.m.rws
        rw [zss_set] at this
        rw [List.length_set]
        exact this
      · rw [List.length_set]
        exact PE.out.o.ints)
    have BE := Lib.hid ((b10.out.setCell (p := ⟨w.heap.size + 1, 0, none⟩) (show w.heap.size ≤ w.heap.size + 1 by omega) (.slice (some ⟨g, 0, none⟩) rs.length rc')).setCell (p := ⟨w.heap.size + 1, 1, none⟩) (show w.heap.size ≤ w.heap.size + 1 by omega) (.slice WA' rs.length wc'))
    have RE0 := Lib.hid s3.cells.1
    have RE1 := Lib.hid s3.cells.2
    clear s1 s2 s3 s4
    go_wp2_with fail
    obtain ⟨w9, hw9⟩ : ∃ z, (w7.setCell ⟨w.heap.size + 1, 0, none⟩ (.slice (some ⟨g, 0, none⟩) rs.length rc')).setCell ⟨w.heap.size + 1, 1, none⟩ (.slice WA' rs.length wc') = z := ⟨_, rfl⟩
    rw [hw9] at VE BE RE0 RE1 ⊢
    have re0 := RE0.out
    have re1 := RE1.out
    exact bodyPost_ret (v := .tuple #[.agg #[.slice (some ⟨g, 0, none⟩) rs.length rc', .slice WA' rs.length wc'], .bool true]) (by simp [results, Try.results17, go_sem, re0, re1]) rfl (.inr ⟨j, y, rfl, HY.out, _, rc', _, wc', by rw [List.length_set], VE.out, BE.out⟩)
end Go.Proofs.Ytikcbconfinibaa
