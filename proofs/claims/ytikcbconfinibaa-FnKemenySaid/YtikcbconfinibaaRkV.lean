/- A valid profile is found valid. -/
import Derived.Test.YtikcbconfinibaaRkOk
import Derived.Test.YtikcbconfinibaaSorted
import Derived.Test.YtikcbconfinibaaCells
namespace Go.Proofs.Ytikcbconfinibaa
set_option linter.unusedVariables false
set_option linter.unusedSimpArgs false
set_option maxRecDepth 100000
open Go.RowKit
theorem isRanking_ok (n : Nat) (h1 : 1 ≤ n) (h6 : n ≤ 6) (r : List Nat) (hp : r.Perm (List.range n)) (A : Option Addr) (c : Nat) (w : World) (h : Ints .i64 w A n c (zr r)) :
    Calls Try.prog 43 #[.slice A n c, .int .i64 n] w fun e w' => e = .returned (.bool true) ∧ Below w.heap.size w w' := by
  have SP := Lib.hid (sorted_perm hp)
  have H := Lib.hid h
  clear h
  go_enter Try.func43, Try.ntmps43
  go_wp2_with fail
  refine (clone64_any A n c (zr r) w H.out (by omega)).mono ?_
  rintro e w1 ⟨A1, c1, rfl, o1, b1⟩
  have O1 := Lib.hid o1
  have B1 := Lib.hid b1
  clear o1 b1
  go_wp2_with fail
  refine (sort64_any w.heap.size A1 n c1 (zr r) w1 O1.out (by omega)).mono ?_
  rintro e w2 ⟨rfl, o2, g2⟩
  have B2 := Lib.hid (B1.out.grown g2 B1.out.size (fun x hx => (O1.out.block x hx).1))
  have O2 := Lib.hid o2
  have nn : ((n : Int) == (n : Int)) = true := by simp
  have g1 : decide ((1 : Int) ≤ (n : Int)) = true := decide_eq_true (by omega)
  have l6 : decide ((n : Int) ≤ 6) = true := decide_eq_true (by omega)
  obtain ⟨Z, hZ⟩ : ∃ z, ((zr r).mergeSort fun x y => decide (x ≤ y)) = z := ⟨_, rfl⟩
  rw [hZ] at O2 SP
  clear o2 g2 hZ
  go_wp2_with fail
  refine (isSet_any A1 n c1 Z n w2 O2.out.ints (by omega) (by omega)).mono ?_
  rintro e w3 ⟨b, rfl, hb, rfl⟩
  obtain rfl : b = true := hb.2 SP.out
  clear hb
  go_wp2_with fail
  go_ret
  exact ⟨rfl, B2.out⟩
theorem rows_at {rs : List (List Nat)} {k : Nat} {zs : List Int} (h : (rs.map zr)[k]? = some zs) : ∃ r, rs[k]? = some r ∧ zs = zr r := by
  rw [List.getElem?_map] at h
  obtain ⟨r, h1, h2⟩ := Option.map_eq_some_iff.1 h
  exact ⟨r, h1, h2.symm⟩
set_option maxHeartbeats 1000000 in
theorem validProfile_ok (n : Nat) (rs : List (List Nat)) (ws : List Int) (ok : PrOk n rs ws) (RA : Option Addr) (rc : Nat) (WA : Option Addr) (wc : Nat) (w : World) (h : PrV w RA rc WA wc rs ws) :
    Calls Try.prog 30 #[.agg #[.slice RA rs.length rc, .slice WA rs.length wc]] w fun e w' => e = .returned (.bool true) ∧ Below w.heap.size w w' := by
  have b0 := bel_alloc w (.cells #[.slice RA rs.length rc, .slice WA rs.length wc] 27)
  have C0 := Cs.new w [.slice RA rs.length rc, .slice WA rs.length wc] 27
  have y0 := C0.cell 0 rfl
  have y1 := C0.cell 1 rfl
  have HC := Lib.hid C0
  have H := Lib.hid (h.below b0)
  have B0 := Lib.hid b0
  have OK := Lib.hid ok
  have m1 := ok.m1
  have m12 := ok.m12
  have n1 := ok.n1
  have n6 := ok.n6
  have W1 := Lib.hid (inR_true (n := (rs.length : Int)) (a := 1) (b := 12) |>.2 (by omega))
  have nn : ((rs.length : Int) != (rs.length : Int)) = false := by simp
  clear h C0 b0 ok
  go_enter Try.func30, Try.ntmps30
  go_wp2_with fail
  refine (within_val W1.out _).mono ?_
  rintro e w1 ⟨rfl, rfl⟩
  go_wp2_with fail
  go_loopw [22] (fun t wr => ∃ k : Nat, k ≤ rs.length ∧ t = .int .i64 k ∧ Below (w.alloc (.cells #[.slice RA rs.length rc, .slice WA rs.length wc] 27)).heap.size (w.alloc (.cells #[.slice RA rs.length rc, .slice WA rs.length wc] 27)) wr) (fun t _ => rs.length - (intOf t).toNat)
  case atStart => exact ⟨0, Nat.zero_le _, rfl, Below.refl _ _⟩
  case round =>
    obtain ⟨k, hk, rfl, hb⟩ := hrel
    have B1 := Lib.hid (bel_trans B0.out hb)
    have C1 := Lib.hid (HC.out.below hb)
    have H1 := Lib.hid (H.out.below hb)
    have HB := Lib.hid hb
    clear hb y0 y1
    have y0 := C1.out.cell 0 rfl
    have y1 := C1.out.cell 1 rfl
    by_cases hlt : k < rs.length
    · have d0 := decide_eq_true (show (k : Int) < (rs.length : Int) by omega)
      have k0 : (0 : Int) ≤ (k : Int) := by omega
      have k1 : (k : Int) < (rs.length : Int) := by omega
      have z1 : (0 : Int) < (rs.length : Int) := by omega
      obtain ⟨b, off, A', m, c', zs, rfl, _, cR, iR, hz⟩ := H1.out.rows.at (j := k) (by omega)
      obtain ⟨_, _, A0, m0, c0, zs0, e0, _, cR0, iR0, hz0⟩ := H1.out.rows.at (j := 0) (by omega)
      simp only [Option.some.injEq, Addr.mk.injEq, and_true] at e0
      obtain ⟨rfl, rfl⟩ := e0
      obtain ⟨r, hr, rfl⟩ := rows_at hz.out
      obtain ⟨r0, hr0, rfl⟩ := rows_at hz0.out
      have lr := OK.out.len (List.mem_of_getElem? hr)
      have lr0 := OK.out.len (List.mem_of_getElem? hr0)
      have e1 := iR.1
      have e2 := iR0.1
      rw [zr_len] at e1 e2
      obtain rfl : n = m := by omega
      obtain rfl : n = m0 := by omega
      have IRK := Lib.hid (fun W h => isRanking_ok n n1 n6 r (OK.out.perm r (List.mem_of_getElem? hr)) A' c' W h)
      obtain ⟨gw, ow, z, rfl, _, cw, zb1, zb2, hw⟩ := H1.out.wts.at (j := k) (by omega)
      have WZ := OK.out.wt z (List.mem_of_getElem? hw.out)
      have W2 := Lib.hid (inR_true (n := z) (a := 0) (b := 1000) |>.2 WZ)
      have IR := Lib.hid iR
      rw [Nat.add_zero] at cR0
      clear iR iR0 hz hz0 hr hr0 e1 e2 lr lr0
      go_wp2_with fail
      refine (IRK.out wr IR.out).mono ?_
      rintro e w2 ⟨rfl, b2⟩
      have C2 := Lib.hid (C1.out.below b2)
      have x1 := C2.out.cell 1 rfl
      have cw2 := ((H1.out.below b2).wts.at (j := k) (by omega))
      obtain ⟨_, _, z', ez, _, cw', _, _, hw'⟩ := cw2
      simp only [Option.some.injEq, Addr.mk.injEq, and_true] at ez
      obtain ⟨rfl, rfl⟩ := ez
      have EQ := hw'.out
      rw [hw.out] at EQ
      injection EQ with EQ
      subst EQ
      have B3 := Lib.hid (bel_trans (show Below (w.alloc (.cells #[.slice (some ⟨b, off, none⟩) rs.length rc, .slice (some ⟨gw, ow, none⟩) rs.length wc] 27)).heap.size _ wr from HB.out) b2)
      clear b2 hw' hw y0 y1 cw
      go_wp2_with fail
      refine (within_val W2.out _).mono ?_
      rintro e w3 ⟨rfl, rfl⟩
      go_wp2_with fail
      go_roundw
      case rel => exact ⟨k + 1, by omega, by go_num, B3.out⟩
      case measure => simp [intOf]; omega
    · have d0 := decide_eq_false (show ¬ (k : Int) < (rs.length : Int) by omega)
      go_wp2_with fail
      go_ret
      exact ⟨rfl, B1.out⟩
end Go.Proofs.Ytikcbconfinibaa
