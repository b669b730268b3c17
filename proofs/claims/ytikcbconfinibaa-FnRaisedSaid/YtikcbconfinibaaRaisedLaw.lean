/- The law FnRaised, walked. -/
import Derived.Test.YtikcbconfinibaaRkOpt
import Derived.Test.YtikcbconfinibaaR8
import Derived.Test.YtikcbconfinibaaSetA
namespace Go.Proofs.Ytikcbconfinibaa
set_option linter.unusedVariables false
set_option linter.unusedSimpArgs false
set_option maxRecDepth 100000
open Go.RowKit Go.Deep
theorem up_at {r : List Nat} {j x y : Nat} (h : j < r.length) : (up r j x y)[j]? = some x := by
  unfold up
  rw [List.getElem?_set_ne (by omega), List.getElem?_set_self h]
/-- What the law asks of the raised profile. -/
structure RaisedF (N : Nat) (rs' : List (List Nat)) (ws : List Int) (k j x : Nat) : Prop where
  ok : PrOk N rs' ws
  kl : k < rs'.length
  has : x ∈ wnL N (strg N (prs (rs'.zip ws)))
  at' : ∃ r', rs'[k]? = some r' ∧ r'[j]? = some x ∧ r'.Nodup ∧ r'.length = N
theorem raisedF_of {N : Nat} {rs : List (List Nat)} {ws : List Int} (h : PrOk N rs ws) {k j x y : Nat} {r : List Nat} (hr : rs[k]? = some r) (hy : r[j]? = some y) (hx : r[j + 1]? = some x) (hw : x ∈ wnL N (strg N (prs (rs.zip ws)))) : RaisedF N (rs.set k (up r j x y)) ws k j x := by
  have hk := (List.getElem?_eq_some_iff.1 hr).1
  have hm : (rs.set k (up r j x y))[k]? = some (up r j x y) := List.getElem?_set_self hk
  have ok := h.up hr hy hx
  exact ⟨ok, by rw [List.length_set]; exact hk, up_wins h hr hy hx hw, _, hm, up_at (List.getElem?_eq_some_iff.1 hy).1, ok.nodup (List.mem_of_getElem? hm), ok.len (List.mem_of_getElem? hm)⟩
set_option maxHeartbeats 8000000 in
theorem fnRaised_walk (w : World) (A : Option Addr) (n c : Nat) (zs : List Int) (h : Ints .u8 w A n c zs) (B : Option Addr) (m d : Nat) (ys : List Int) (k : Ints .u8 w B m d ys) :
    Calls Try.prog 4 #[.slice A n c, .slice B m d] w fun e w' => e = .returned (.bool true) ∧ Below w.heap.size w w' := by
  have hn := h.short
  have hm := k.short
  by_cases h1 : (decide ((48 : Int) < n) || decide ((48 : Int) < m)) = true
  · have H1 := Lib.hid h1
    clear h1
    go_enter Try.func4, Try.ntmps4
    go_wp2_with fail
    refine (r8Long_any A n c B m d _ hn hm).mono ?_
    rintro e w1 ⟨rfl, rfl⟩
    rw [H1.out]
    go_wp2_with fail
    go_ret
    exact ⟨rfl, Below.refl _ _⟩
  · have H1 : Hid ((decide ((48 : Int) < n) || decide ((48 : Int) < m)) = false) := by show _ = _; simpa using h1
    clear h1
    go_enter Try.func4, Try.ntmps4
    go_wp2_with fail
    refine (r8Long_any A n c B m d _ hn hm).mono ?_
    rintro e w1 ⟨rfl, rfl⟩
    rw [H1.out]
    go_wp2_with fail
    refine (R8Profile_any A n c zs _ h).mono ?_
    rintro e w1 ⟨N, rs, ws, RA, rc, WA, wc, rfl, ok, hV, b1⟩
    have n1 := ok.n1
    have n6 := ok.n6
    have m1 := ok.m1
    have m12 := ok.m12
    have OK := Lib.hid ok
    have ba := bel_alloc w1 (.cells #[.slice RA rs.length rc, .slice WA rs.length wc] 27)
    have C1 := Lib.hid (Cs.new w1 [.slice RA rs.length rc, .slice WA rs.length wc] 27)
    have y0 := C1.out.cell 0 rfl
    have y1 := C1.out.cell 1 rfl
    have V1 := Lib.hid (hV.below ba)
    have B1 := Lib.hid (bel_trans b1 ba)
    clear ok hV b1 ba
    go_wp2_with fail
    have SW := Lib.hid (fun N rs ws OK RA rc WA wc W hW => schulze_ok N rs ws OK RA rc WA wc W hW)
    have CL := Lib.hid (show Clo N (strg N (prs (rs.zip ws))) from fw_closed N (ini (prs (rs.zip ws))))
    have W1 := Lib.hid (wn_some CL.out (by omega))
    refine (SW.out N rs ws OK.out RA rc WA wc _ V1.out).mono ?_
    rintro e w2 ⟨AZ, cZ, rfl, oZ, b2⟩
    have C2 := Lib.hid (C1.out.below b2)
    have V2 := Lib.hid (V1.out.below b2)
    have B2 := Lib.hid (bel_trans B1.out b2)
    have OZ := Lib.hid oZ
    have lz0 : 0 < (zr (wnL N (strg N (prs (rs.zip ws))))).length := by rw [zr_len]; exact W1.out
    have HAS := Lib.hid (fun z (hz : ∃ q, (zr (wnL N (strg N (prs (rs.zip ws)))))[q]? = some z) => (show ∃ x : Nat, z = (x : Int) ∧ x ∈ wnL N (strg N (prs (rs.zip ws))) ∧ x < N from by
      obtain ⟨q, hz⟩ := hz
      obtain ⟨x, hx, rfl⟩ := zr_at' hz
      have hm := List.mem_of_getElem? hx
      exact ⟨x, rfl, hm, (wnL_mem.1 hm).1⟩))
    obtain ⟨S, hS⟩ : ∃ S, wnL N (strg N (prs (rs.zip ws))) = S := ⟨_, rfl⟩
    have HS := Lib.hid hS
    rw [hS] at OZ lz0 HAS
    rw [hS]
    obtain ⟨Z, hZ⟩ : ∃ z, zr S = z := ⟨_, rfl⟩
    rw [hZ] at OZ lz0 HAS
    rw [hZ]
    have zs0 : (((Z.length : Nat) : Int) == 0) = false := by show decide _ = false; exact decide_eq_false (by omega)
    have z64 := OZ.out.ints.short
    clear y0 y1 b2 oZ hS hZ C1 V1 B1 W1 CL
    have y0 := C2.out.cell 0 rfl
    have y1 := C2.out.cell 1 rfl
    go_wp2_with fail
    refine (r8At_any B m d ys 0 (Z.length : Nat) _ (k.below B2.out) (by omega) (by omega)).mono ?_
    rintro e w3 ⟨i0, rfl, hi0, b3⟩
    obtain ⟨ia, ib⟩ := hi0.lt (by omega)
    obtain ⟨i0, rfl⟩ := Int.eq_ofNat_of_zero_le ia
    obtain ⟨bz, oz, z, rfl, _, cz, _, _, hz⟩ := (OZ.out.below b3).ints.at (j := i0) (by omega)
    obtain ⟨x, rfl, hxS, xN⟩ := HAS.out z ⟨_, hz.out⟩
    have HXS := Lib.hid hxS
    have C3 := Lib.hid (C2.out.below b3)
    have V3 := Lib.hid (V2.out.below b3)
    have B3 := Lib.hid (bel_trans B2.out b3)
    clear y0 y1 b3 hi0 hz hxS OZ HAS C2 V2 B2
    have y0 := C3.out.cell 0 rfl
    have y1 := C3.out.cell 1 rfl
    go_wp2_with fail
    refine (r8At_any B m d ys 1 (rs.length : Nat) _ (k.below B3.out) (by omega) (by omega)).mono ?_
    rintro e w4 ⟨k0, rfl, hk0, b4⟩
    obtain ⟨ka, kb⟩ := hk0.lt (by omega)
    obtain ⟨k0, rfl⟩ := Int.eq_ofNat_of_zero_le ka
    have C4 := Lib.hid (C3.out.below b4)
    have V4 := Lib.hid (V3.out.below b4)
    have B4 := Lib.hid (bel_trans B3.out b4)
    obtain ⟨b, off, A0, m0, c0, zs0', rfl, _, cR0, iR0, hz0⟩ := V4.out.rows.at (j := k0) (by omega)
    obtain ⟨r, hr, rfl⟩ := rows_at hz0.out
    have lr := OK.out.len (List.mem_of_getElem? hr)
    have e2 := iR0.1
    rw [zr_len] at e2
    obtain rfl : N = m0 := by omega
    obtain ⟨i, hx⟩ : ∃ i, r[i]? = some x := by
      have := (OK.out.perm r (List.mem_of_getElem? hr)).mem_iff.2 (List.mem_range.2 xN)
      exact List.mem_iff_getElem?.1 this
    have iN : i < N := by rw [← lr]; exact (List.getElem?_eq_some_iff.1 hx).1
    have IR := Lib.hid iR0
    have HR := Lib.hid hr
    have HX := Lib.hid hx
    have ND := Lib.hid (OK.out.nodup (List.mem_of_getElem? hr))
    clear y0 y1 cz b4 hk0 hz0 hr hx iR0 e2 lr C3 V3 B3
    have y0 := C4.out.cell 0 rfl
    have y1 := C4.out.cell 1 rfl
    go_wp2_with fail
    refine (r8Index_ok r ND.out HX.out A0 N c0 _ IR.out).mono ?_
    rintro e w5 ⟨rfl, rfl⟩
    go_wp2_with fail
    refine (raise_ok N rs ws OK.out HR.out HX.out _ rc WA wc _ V4.out).mono ?_
    rintro e w5 (⟨rfl, rfl, b5⟩ | ⟨j, y, rfl, hy, RB, rb, WB, wb, rfl, hV5, b5⟩)
    · have B5 := Lib.hid (bel_trans B4.out (bel_trans b5 (bel_alloc _ (.cells #[.slice none 0 0, .slice none 0 0] 27))))
      clear y0 y1 b5 cR0
      go_wp2_with fail
      go_ret
      exact ⟨rfl, B5.out⟩
    · have RF := Lib.hid (raisedF_of OK.out HR.out hy HX.out (by rw [HS.out]; exact HXS.out))
      obtain ⟨rs', hrs'⟩ : ∃ q, rs.set k0 (up r j x y) = q := ⟨_, rfl⟩
      rw [hrs'] at hV5 RF
      rw [hrs']
      have kl := RF.out.kl
      have m12' := RF.out.ok.m12
      obtain ⟨r', hr', hx', nd', lr'⟩ := RF.out.at'
      have bb := bel_alloc w5 (.cells #[.slice RB rs'.length rb, .slice WB rs'.length wb] 27)
      have D5 := Lib.hid (Cs.new w5 [.slice RB rs'.length rb, .slice WB rs'.length wb] 27)
      have B5 := Lib.hid (bel_trans B4.out (bel_trans b5 bb))
      have V5 := Lib.hid (hV5.below bb)
      have HR' := Lib.hid hr'
      have HX' := Lib.hid hx'
      have ND' := Lib.hid nd'
      have e1 : decide ((0 : Int) < ((j + 1 : Nat) : Int)) = true := decide_eq_true (by omega)
      clear y0 y1 cR0 b5 bb hV5 hr' hx' nd' hy hrs' C4 V4 B4 HR HX ND IR
      have y0 := D5.out.cell 0 rfl
      have y1 := D5.out.cell 1 rfl
      go_wp2_with fail
      refine (SW.out N rs' ws RF.out.ok RB rb WB wb _ V5.out).mono ?_
      rintro e w6 ⟨AL, cL, rfl, oL, b6⟩
      have D6 := Lib.hid (D5.out.below b6)
      have B6 := Lib.hid (bel_trans B5.out b6)
      have OL := Lib.hid oL
      have V6 := Lib.hid (V5.out.below b6)
      have HAS := Lib.hid (show (zr (wnL N (strg N (prs (rs'.zip ws))))).any (· == (x : Int)) = true from List.any_eq_true.2 ⟨(x : Int), List.mem_map.2 ⟨x, RF.out.has, rfl⟩, by simp⟩)
      obtain ⟨L, hL⟩ : ∃ z, zr (wnL N (strg N (prs (rs'.zip ws)))) = z := ⟨_, rfl⟩
      rw [hL] at OL HAS
      rw [hL]
      have k0' : (0 : Int) ≤ (k0 : Int) := by omega
      have k1' : (k0 : Int) < (rs'.length : Int) := by omega
      have kd := decide_eq_true k1'
      obtain ⟨b', off', A1, m1', c1', zs1, rfl, _, cR1, iR1, hz1⟩ := V6.out.rows.at (j := k0) (by omega)
      obtain ⟨r1, hr1, rfl⟩ := rows_at hz1.out
      obtain rfl : r' = r1 := by have := HR'.out; rw [hr1] at this; injection this with this; exact this.symm
      have e3 := iR1.1
      rw [zr_len] at e3
      obtain rfl : N = m1' := by omega
      have IR := Lib.hid iR1
      have wj : IntKind.i64.wrap (((j + 1 : Nat) : Int) - 1) = (j : Int) := by rw [show ((j + 1 : Nat) : Int) - 1 = (j : Int) by omega]; exact IntWalk.i64_in _ (by omega)
      have ej : ((j : Int) == (j : Int)) = true := by simp
      clear y0 y1 hL b6 oL D5 V5 B5 hz1 hr1 iR1 e3
      have y0 := D6.out.cell 0 rfl
      have y1 := D6.out.cell 1 rfl
      go_wp2_with fail
      refine (r8Index_ok r' ND'.out HX'.out A1 N c1' _ IR.out).mono ?_
      rintro e w7 ⟨rfl, rfl⟩
      go_wp2_with fail
      refine (r8Has_any AL L.length cL L x _ OL.out.ints).mono ?_
      rintro e wE ⟨rfl, rfl⟩
      rw [HAS.out]
      go_wp2_with fail
      go_ret
      exact ⟨rfl, B6.out⟩
end Go.Proofs.Ytikcbconfinibaa
