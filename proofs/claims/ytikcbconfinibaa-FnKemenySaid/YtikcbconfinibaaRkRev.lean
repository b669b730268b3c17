/- A profile is reversed. -/
import Derived.Test.YtikcbconfinibaaRkGen
namespace Go.Proofs.Ytikcbconfinibaa
set_option linter.unusedVariables false
set_option linter.unusedSimpArgs false
set_option maxRecDepth 100000
open Go.RowKit Go.Deep
theorem PS.turn {w w1 : World} {lo g : Nat} {A1 : Option Addr} {k1 c1 : Nat} {vs : List Value} {zss : List (List Int)} {A2 : Option Addr} {k2 c2 : Nat} {ws : List Int} {B : Option Addr} {m d j : Nat} {zs zs' : List Int}
    (h : PS w lo g A1 k1 c1 vs zss A2 k2 c2 ws) (hv : vs[j]? = some (.slice B m d)) (h0 : OwnI w lo B m d zs) (hrow : OwnI w1 lo B m d zs') (hg : w.grownBy w1 (Value.slice B m d).ownBlock) : PS w1 lo g A1 k1 c1 vs (zss.set j zs') A2 k2 c2 ws :=
  ⟨h.b.keep (n := 0) h0.1 hg (by decide), h.m.turn hv hrow h0 hg, h.o.kept hg (h.ap _ (List.mem_of_getElem? hv)).symm, h.ap⟩
def revT (k : Nat) (rs : List (List Nat)) : List (List Int) := (rs.take k).map (fun r => zr r.reverse) ++ (rs.drop k).map zr
theorem revT_next {k : Nat} {rs : List (List Nat)} {r : List Nat} (h : rs[k]? = some r) : (revT k rs).set k (zr r.reverse) = revT (k + 1) rs := by
  have hl : ((rs.take k).map (fun r => zr r.reverse)).length = k := by
    rw [List.length_map, List.length_take]
    have := (List.getElem?_eq_some_iff.1 h).1
    omega
  unfold revT
  rw [List.set_append_right _ _ (by omega), hl, Nat.sub_self, take_snoc' h, List.map_append]
  have hd : rs.drop k = r :: rs.drop (k + 1) := by
    obtain ⟨hk, rfl⟩ := List.getElem?_eq_some_iff.1 h
    exact List.drop_eq_getElem_cons hk
  rw [hd, List.map_cons, List.set_cons_zero]
  simp
theorem revT_at {k : Nat} {rs : List (List Nat)} {r : List Nat} (h : rs[k]? = some r) : (revT k rs)[k]? = some (zr r) := by
  have hk := (List.getElem?_eq_some_iff.1 h).1
  have hl : ((rs.take k).map (fun r => zr r.reverse)).length = k := by
    rw [List.length_map, List.length_take]
    omega
  unfold revT
  rw [List.getElem?_append_right (by omega), hl, Nat.sub_self, List.getElem?_map, List.getElem?_drop, Nat.add_zero, h]
  rfl
theorem revT_end {rs : List (List Nat)} : revT rs.length rs = (rs.map List.reverse).map zr := by
  unfold revT
  rw [List.take_of_length_le (Nat.le_refl _), List.drop_of_length_le (Nat.le_refl _)]
  simp
theorem PrOk.rev {n : Nat} {rs : List (List Nat)} {ws : List Int} (h : PrOk n rs ws) : PrOk n (rs.map List.reverse) ws :=
  ⟨h.n1, h.n6, by rw [List.length_map]; exact h.m1, by rw [List.length_map]; exact h.m12, by rw [List.length_map]; exact h.lw, fun r hr => by
    obtain ⟨x, hx, rfl⟩ := List.mem_map.1 hr
    exact (List.reverse_perm x).trans (h.perm x hx), h.wt⟩
theorem prs_zrev (rs : List (List Nat)) (ws : List Int) (a b : Nat) : prs ((rs.map List.reverse).zip ws) a b = prs (rs.zip ws) b a := by
  have e : (rs.map List.reverse).zip ws = (rs.zip ws).map fun p => (p.1.reverse, p.2) := by
    rw [List.zip_map_left]
    rfl
  rw [e, prs_rev]
def RevP (rs : List (List Nat)) (ws : List Int) (w : World) (e : Ending) (w' : World) : Prop :=
  ∃ (RA : Option Addr) (rc : Nat) (WA : Option Addr) (wc : Nat), e = .returned (.tuple #[.agg #[.slice RA rs.length rc, .slice WA rs.length wc], .bool true]) ∧ PrV w' RA rc WA wc rs ws ∧ Below w.heap.size w w'
set_option maxHeartbeats 2000000 in
theorem reverse_ok (n : Nat) (rs : List (List Nat)) (ws : List Int) (ok : PrOk n rs ws) (RA : Option Addr) (rc : Nat) (WA : Option Addr) (wc : Nat) (w : World) (h : PrV w RA rc WA wc rs ws) :
    Calls Try.prog 9 #[.agg #[.slice RA rs.length rc, .slice WA rs.length wc]] w (RevP (rs.map List.reverse) ws w) := by
  have n1 := ok.n1
  have n6 := ok.n6
  have m1 := ok.m1
  have m12 := ok.m12
  have ba := bel_alloc w (.cells #[.slice RA rs.length rc, .slice WA rs.length wc] 27)
  have bb := bel_alloc (w.alloc (.cells #[.slice RA rs.length rc, .slice WA rs.length wc] 27)) (.cells #[.slice none 0 0, .slice none 0 0] 27)
  have C0 := (Cs.new w [.slice RA rs.length rc, .slice WA rs.length wc] 27)
  have R0 := BO.new 27 (w.alloc (.cells #[.slice RA rs.length rc, .slice WA rs.length wc] 27)) (.slice none 0 0) (.slice none 0 0)
  have sA : (w.alloc (.cells #[.slice RA rs.length rc, .slice WA rs.length wc] 27)).heap.size = w.heap.size + 1 := by simp
  rw [sA] at R0
  have CB := Lib.hid (C0.below bb)
  have RB := Lib.hid R0
  have BB := Lib.hid (bel_trans ba bb)
  have H := Lib.hid (h.below (bel_trans ba bb))
  have OK := Lib.hid ok
  have sz : ((w.alloc (.cells #[.slice RA rs.length rc, .slice WA rs.length wc] 27)).alloc (.cells #[.slice none 0 0, .slice none 0 0] 27)).heap.size = w.heap.size + 2 := by simp
  have y0 := CB.out.cell 0 rfl
  have y1 := CB.out.cell 1 rfl
  clear ba bb C0 R0 sA h ok
  go_enter Try.func9, Try.ntmps9
  go_wp2_with fail
  refine (validProfile_ok n rs ws OK.out RA rc WA wc _ H.out).mono ?_
  rintro e w1 ⟨rfl, b1⟩
  have CB1 := Lib.hid (CB.out.below b1)
  have RB1 := Lib.hid (RB.out.below b1)
  have BB1 := Lib.hid (bel_trans BB.out b1)
  have H1 := Lib.hid (H.out.below b1)
  have sz1 := b1.size
  rw [sz] at sz1
  clear b1 y0 y1 CB RB BB H
  have y0 := CB1.out.cell 0 rfl
  have y1 := CB1.out.cell 1 rfl
  go_wp2_with fail
  refine (cloneProfile_ok n rs ws OK.out RA rc WA wc _ H1.out).mono ?_
  rintro e w2 ⟨g, rc', vs, WA', wc', rfl, oM, oI, hap, b2⟩
  have BO7 := BO.new 27 w2 (.slice (some ⟨g, 0, none⟩) rs.length rc') (.slice WA' rs.length wc')
  have b7 := bel_alloc w2 (.cells #[.slice (some ⟨g, 0, none⟩) rs.length rc', .slice WA' rs.length wc'] 27)
  have sz2 := b2.size
  have P8 := Lib.hid (show PS (w2.alloc (.cells #[.slice (some ⟨g, 0, none⟩) rs.length rc', .slice WA' rs.length wc'] 27)) w1.heap.size w2.heap.size (some ⟨g, 0, none⟩) rs.length rc' vs (revT 0 rs) WA' rs.length wc' ws from
    ⟨BO7, oM.below b7, oI.below b7, hap⟩)
  have R8 := Lib.hid ((RB1.out.below b2).below b7)
  have B8 := Lib.hid (bel_trans BB1.out (bel_trans b2 b7))
  obtain ⟨gP, hgP⟩ : ∃ z, w2.heap.size = z := ⟨_, rfl⟩
  have gP2 : w.heap.size + 2 ≤ gP := by omega
  have y2 := P8.out.b.cells.1
  have y3 := P8.out.b.cells.2
  rw [hgP] at P8 y2 y3
  have HGP := Lib.hid hgP
  clear BO7 b7 oM oI hap b2 y0 y1 CB1 RB1 BB1 H1 hgP sz2
  go_wp2_with fail
  rw [HGP.out]
  clear y2 y3
  go_loopw [16] (fun t wr => ∃ k : Nat, k ≤ rs.length ∧ t = .int .i64 k ∧ PS wr w1.heap.size gP (some ⟨g, 0, none⟩) rs.length rc' vs (revT k rs) WA' rs.length wc' ws ∧ BO 27 wr (w.heap.size + 1) (.slice none 0 0) (.slice none 0 0) ∧ Below w.heap.size w wr) (fun t _ => rs.length - (intOf t).toNat)
  case atStart => exact ⟨0, Nat.zero_le _, rfl, P8.out, R8.out, B8.out⟩
  case round =>
    obtain ⟨k, hk, rfl, hP, hR, hB⟩ := hrel
    have P9 := Lib.hid hP
    have R9 := Lib.hid hR
    have B9 := Lib.hid hB
    have z9 := hB.size
    have gl9 := hP.b.lt
    clear hP hR hB P8 R8 B8
    by_cases hlk : k < rs.length
    · have d0 := decide_eq_true (show (k : Int) < (rs.length : Int) by omega)
      have k0 : (0 : Int) ≤ (k : Int) := by omega
      have k1 : (k : Int) < (rs.length : Int) := by omega
      obtain ⟨g', A', c', zs, e, g1, g2, hz, hcell, ho, hv⟩ := P9.out.m.at hlk
      simp only [Option.some.injEq, Addr.mk.injEq, and_true] at e
      subst e
      obtain ⟨r, hr⟩ : ∃ r, rs[k]? = some r := ⟨_, List.getElem?_eq_getElem hlk⟩
      have hzz := hz.out
      rw [revT_at hr] at hzz
      injection hzz with hzz
      subst hzz
      have lr := OK.out.len (List.mem_of_getElem? hr)
      rw [zr_len, lr] at hcell ho hv
      have HO := Lib.hid ho
      have HV := Lib.hid hv
      have NX := Lib.hid (revT_next hr)
      have ZR := Lib.hid (zr_rev r)
      clear hz ho hv hr lr
      go_wp2_with fail
      refine (reverse64_any w1.heap.size A' n c' (zr r) wr HO.out (by omega)).mono ?_
      rintro e w3 ⟨rfl, o3, g3⟩
      rw [← ZR.out] at o3
      have P10 := Lib.hid (P9.out.turn HV.out HO.out o3 g3)
      have R10 := Lib.hid (R9.out.off g3 (fun x hx => by have := (HO.out.block x hx).1; omega))
      have B10 := Lib.hid (B9.out.grown g3 B9.out.size (fun x hx => by have := (HO.out.block x hx).1; omega))
      clear o3 g3 hcell
      go_wp2_with fail
      go_roundw
      case rel => exact ⟨k + 1, by omega, by go_num, by rw [← NX.out]; exact P10.out, R10.out, B10.out⟩
      case measure => simp [intOf]; omega
    · obtain rfl : rs.length = k := by omega
      have d0 := decide_eq_false (show ¬ (rs.length : Int) < (rs.length : Int) by omega)
      have q0 := P9.out.b.cells.1
      have q1 := P9.out.b.cells.2
      have r0 := R9.out.cells.1
      have r1 := R9.out.cells.2
      have f0 := R9.out.free 0
      have f1 := R9.out.free 1
      obtain ⟨s1, s2⟩ := R9.out.set0 (.slice (some ⟨g, 0, none⟩) rs.length rc')
      obtain ⟨s3, s4⟩ := s1.set1 (.slice WA' rs.length wc')
      have PE := Lib.hid ((P9.out.src s2 (by omega) (by omega)).src s4 (by omega) (by omega))
      have VE := Lib.hid (show PrV ((wr.setCell ⟨w.heap.size + 1, 0, none⟩ (.slice (some ⟨g, 0, none⟩) rs.length rc')).setCell ⟨w.heap.size + 1, 1, none⟩ (.slice WA' rs.length wc')) (some ⟨g, 0, none⟩) rc' WA' wc' (rs.map List.reverse) ws from by
        refine ⟨?_, ?_⟩
        · have := PE.out.m.rws
          rw [revT_end] at this
          rw [List.length_map]
          exact this
        · rw [List.length_map]
          exact PE.out.o.ints)
      have BE := Lib.hid ((B9.out.setCell (p := ⟨w.heap.size + 1, 0, none⟩) (show w.heap.size ≤ w.heap.size + 1 by omega) (.slice (some ⟨g, 0, none⟩) rs.length rc')).setCell (p := ⟨w.heap.size + 1, 1, none⟩) (show w.heap.size ≤ w.heap.size + 1 by omega) (.slice WA' rs.length wc'))
      have RE0 := Lib.hid s3.cells.1
      have RE1 := Lib.hid s3.cells.2
      clear s1 s2 s3 s4
      go_wp2_with fail
      obtain ⟨w9, hw9⟩ : ∃ z, (wr.setCell ⟨w.heap.size + 1, 0, none⟩ (.slice (some ⟨g, 0, none⟩) rs.length rc')).setCell ⟨w.heap.size + 1, 1, none⟩ (.slice WA' rs.length wc') = z := ⟨_, rfl⟩
      rw [hw9] at VE BE RE0 RE1 ⊢
      have re0 := RE0.out
      have re1 := RE1.out
      exact bodyPost_ret (v := .tuple #[.agg #[.slice (some ⟨g, 0, none⟩) rs.length rc', .slice WA' rs.length wc'], .bool true]) (by simp [results, Try.results9, go_sem, re0, re1]) rfl ⟨_, rc', _, wc', by rw [List.length_map], VE.out, BE.out⟩
end Go.Proofs.Ytikcbconfinibaa
