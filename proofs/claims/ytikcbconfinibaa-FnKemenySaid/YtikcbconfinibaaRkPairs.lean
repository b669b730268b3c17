/- The pairs of a profile, as the program counts them. -/
import Derived.Test.YtikcbconfinibaaRkOk
import Derived.Test.YtikcbconfinibaaCells
import Derived.Test.YtikcbconfinibaaPhase
namespace Go.Proofs.Ytikcbconfinibaa
set_option linter.unusedVariables false
set_option linter.unusedSimpArgs false
set_option maxRecDepth 100000
open Go.RowKit
theorem rows_at' {rs : List (List Nat)} {k : Nat} {zs : List Int} (h : (rs.map zr)[k]? = some zs) : ∃ r, rs[k]? = some r ∧ zs = zr r := by
  rw [List.getElem?_map] at h
  obtain ⟨r, h1, h2⟩ := Option.map_eq_some_iff.1 h
  exact ⟨r, h1, h2.symm⟩
theorem zr_at' {r : List Nat} {i : Nat} {z : Int} (h : (zr r)[i]? = some z) : ∃ x, r[i]? = some x ∧ z = (x : Int) := by
  unfold zr at h
  rw [List.getElem?_map] at h
  obtain ⟨x, h1, h2⟩ := Option.map_eq_some_iff.1 h
  exact ⟨x, h1, h2.symm⟩
theorem zeros_row (W : World) (n : Nat) (hn : n ≤ 6) : OwnI (W.alloc (.cells (madeCells #[.int .i64 0] n) 2)) W.heap.size (some ⟨W.heap.size, 0, none⟩) n n (rowF n fun _ => 0) := by
  have := World.ownsRow_lit (base := W.heap.size) (e := 2) (size := 1) W (madeCells #[.int .i64 0] n) n (Nat.le_refl _) (by unfold maxLen; omega) (by simp [size_madeCells])
  rw [toList_madeCells_one] at this
  refine ⟨?_, fun z hz => ?_⟩
  · rw [← rowF_zero]
    simpa [vals] using this
  · rw [← rowF_zero] at hz
    rw [(List.mem_replicate.1 hz).2]
    decide
theorem matF_rep (n : Nat) (f : Nat → Int) : List.replicate n (rowF n f) = matF n fun _ => f := by
  apply List.ext_getElem?
  intro j
  by_cases hj : j < n
  · rw [matF_at _ hj, List.getElem?_replicate, if_pos hj]
  · rw [List.getElem?_eq_none (by simp; omega), List.getElem?_eq_none (by rw [matF_len]; omega)]
theorem options_ok (n : Nat) (rs : List (List Nat)) (ws : List Int) (ok : PrOk n rs ws) (RA : Option Addr) (rc : Nat) (WA : Option Addr) (wc : Nat) (w : World) (h : PrV w RA rc WA wc rs ws) :
    Calls Try.prog 39 #[.agg #[.slice RA rs.length rc, .slice WA rs.length wc]] w fun e w' => e = .returned (.int .i64 n) ∧ Below w.heap.size w w' := by
  have b0 := bel_alloc w (.cells #[.slice RA rs.length rc, .slice WA rs.length wc] 27)
  have C0 := Cs.new w [.slice RA rs.length rc, .slice WA rs.length wc] 27
  have y0 := C0.cell 0 rfl
  have H := h.below b0
  have m1 := ok.m1
  have z1 : (0 : Int) < (rs.length : Int) := by omega
  obtain ⟨b, off, A0, m0, c0, zs0, rfl, _, cR0, iR0, hz0⟩ := H.rows.at (j := 0) (by omega)
  obtain ⟨r0, hr0, rfl⟩ := rows_at' hz0.out
  have lr0 := ok.len (List.mem_of_getElem? hr0)
  have e2 := iR0.1
  rw [zr_len] at e2
  obtain rfl : n = m0 := by omega
  rw [Nat.add_zero] at cR0
  have B0 := Lib.hid b0
  clear H h C0 b0 iR0 hz0 hr0 e2 lr0 ok
  go_enter Try.func39, Try.ntmps39
  go_wp2_with fail
  go_ret
  exact ⟨rfl, B0.out⟩
/-- A matrix that was made. -/
def MadeF (n : Nat) (M : Nat → Nat → Int) (w : World) (e : Ending) (w' : World) : Prop := ∃ g c vs, e = .returned (.slice (some ⟨g, 0, none⟩) n c) ∧ OwnM w' w.heap.size (some ⟨g, 0, none⟩) n c vs (matF n M) ∧ Below w.heap.size w w'
set_option maxHeartbeats 2000000 in
theorem pairs_ok (n : Nat) (rs : List (List Nat)) (ws : List Int) (ok : PrOk n rs ws) (RA : Option Addr) (rc : Nat) (WA : Option Addr) (wc : Nat) (w : World) (h : PrV w RA rc WA wc rs ws) :
    Calls Try.prog 33 #[.agg #[.slice RA rs.length rc, .slice WA rs.length wc]] w (MadeF n (prs (rs.zip ws)) w) := by
  have ba := bel_alloc w (.cells #[.slice RA rs.length rc, .slice WA rs.length wc] 27)
  have C0 := Cs.new w [.slice RA rs.length rc, .slice WA rs.length wc] 27
  have n1 := ok.n1
  have n6 := ok.n6
  have m1 := ok.m1
  have m12 := ok.m12
  have hmk := fun W => run_make_row' (P := Try.prog) 25 2 (.int .i64 0) 8 Try.underlying25 info_int rfl .i64 .i64 n (by omega) (by omega) W
  have sA : (w.alloc (.cells #[.slice RA rs.length rc, .slice WA rs.length wc] 27)).heap.size = w.heap.size + 1 := by simp
  obtain ⟨w0, hw0⟩ : ∃ x, w.alloc (.cells #[.slice RA rs.length rc, .slice WA rs.length wc] 27) = x := ⟨_, rfl⟩
  rw [hw0] at ba C0 sA
  have bl := bel_alloc w0 (.cells #[] 25)
  have ol := ownM_lit w0
  rw [sA] at ol
  have OL := Lib.hid ol
  have H0 := Lib.hid (h.below ba)
  have H := Lib.hid ((h.below ba).below bl)
  have CC := Lib.hid C0
  have HC := Lib.hid (C0.below bl)
  have BL := Lib.hid bl
  have BA := Lib.hid ba
  have y0 := HC.out.cell 0 rfl
  have y1 := HC.out.cell 1 rfl
  have OK := Lib.hid ok
  have HW := Lib.hid hw0
  clear h C0 ba bl ok hw0 ol
  go_enter Try.func33, Try.ntmps33
  go_wp2_with fail
  rw [HW.out]
  refine (options_ok n rs ws OK.out RA rc WA wc _ H.out).mono ?_
  rintro e w1 ⟨rfl, b1⟩
  have B1 := Lib.hid (bel_trans BL.out b1)
  have O1 := Lib.hid (OL.out.below b1)
  clear b1 OL BL
  go_wp2_with fail
  go_loopw [3, 13] (fun s t wr => ∃ (i : Nat) (A : Option Addr) (c : Nat) (vs : List Value), i ≤ n ∧ s = .slice A i c ∧ t = .int .i64 i ∧ OwnM wr (w.heap.size + 1) A i c vs (List.replicate i (rowF n fun _ => 0)) ∧ Below w0.heap.size w0 wr) (fun _ t _ => n - (intOf t).toNat)
  case atStart => exact ⟨0, _, 0, [], Nat.zero_le _, rfl, rfl, O1.out, B1.out⟩
  case round =>
    obtain ⟨i, A, c, vs, hi, rfl, rfl, hO, hB⟩ := hrel
    have O2 := Lib.hid hO
    have B2 := Lib.hid hB
    have HC2 := Lib.hid (CC.out.below hB)
    clear hO hB O1 B1
    have H2 := Lib.hid (H0.out.below B2.out)
    by_cases hlt : i < n
    · have d0 := decide_eq_true (show (i : Int) < (n : Int) by omega)
      have x0 := HC2.out.cell 0 rfl
      have x1 := HC2.out.cell 1 rfl
      go_wp2_with fail
      refine (options_ok n rs ws OK.out RA rc WA wc _ H2.out).mono ?_
      rintro e w2 ⟨rfl, b2⟩
      have z2 := b2.size
      have zz := B2.out.size
      have O3 := Lib.hid (O2.out.below b2)
      have B3 := Lib.hid (bel_trans B2.out b2)
      have ROW0 := zeros_row w2 n n6
      have bz := bel_alloc w2 (.cells (madeCells #[.int .i64 0] n) 2)
      have O4 := Lib.hid (O3.out.below bz)
      have B4 := Lib.hid (bel_trans B3.out bz)
      have AP := Lib.hid (apart_new (base := 0) (fun v hv g' hg' => (O3.out.blocks v hv g' hg').2) ROW0)
      have ROW := Lib.hid (ROW0.mono (b2 := w.heap.size + 1) (by omega))
      have sz4 : w.heap.size + 1 ≤ (w2.alloc (.cells (madeCells #[.int .i64 0] n) 2)).heap.size := by simp; omega
      have SZ4 := Lib.hid (show (w2.alloc (.cells (madeCells #[.int .i64 0] n) 2)).heap.size = w2.heap.size + 1 by simp)
      have sz5 : w0.heap.size ≤ (w2.alloc (.cells (madeCells #[.int .i64 0] n) 2)).heap.size := by rw [sA]; exact sz4
      have BK := Lib.hid (fun x hx => (show w0.heap.size ≤ x from by rw [sA]; exact (O4.out.block x hx).1))
      have i40 : i ≤ 1099511627776 := by omega
      clear b2 bz ROW0 x0 x1
      go_wp2_with (at_builtin; refine app_row (w2.alloc (.cells (madeCells #[.int .i64 0] n) 2)) rfl _ _ rfl (w.heap.size + 1) A i c vs _ rfl O4.out (some ⟨w2.heap.size, 0, none⟩) n n (rowF n fun _ => 0) ROW.out AP.out (by rw [SZ4.out]; rfl) i40 sz4 ?_; intro A7 c7 w7 p1 p2; have M7 := Lib.hid p1; have B7 := Lib.hid (B4.out.grown p2 sz5 BK.out); clear p1 p2)
      go_roundw
      case rel => exact ⟨i + 1, A7, c7, _, by omega, rfl, by go_num, by rw [List.replicate_succ']; exact M7.out, B7.out⟩
      case measure => simp [intOf]; omega
    · obtain rfl : n = i := by omega
      have d0 := decide_eq_false (show ¬ (n : Int) < (n : Int) by omega)
      obtain ⟨g, rfl, gg1, gg2⟩ := O2.out.form (by omega)
      have O3 := Lib.hid (show OwnM wr (w.heap.size + 1) (some ⟨g, 0, none⟩) n c vs (matF n (prs ((rs.zip ws).take 0))) from by
        have := O2.out
        rw [matF_rep] at this
        exact this)
      have lw := OK.out.lw
      have PB := Lib.hid (fun k a b => prs_bd ((rs.zip ws).take k) a b (fun p hp => by
        have hp := List.mem_of_mem_take hp
        have h1 := (List.of_mem_zip (a := p.1) (b := p.2) hp)
        exact ⟨by rw [OK.out.len h1.1]; exact n6, OK.out.wt _ h1.2⟩))
      have PL : ∀ k, ((rs.zip ws).take k).length ≤ 12 := fun k => by rw [List.length_take, List.length_zip]; omega
      have HPL := Lib.hid PL
      have x0 := HC2.out.cell 0 rfl
      clear O2 lw PL hmk
      go_wp2_with fail
      clear x0
      go_loopw [25] (fun t wq => ∃ k : Nat, k ≤ rs.length ∧ t = .int .i64 k ∧ OwnM wq (w.heap.size + 1) (some ⟨g, 0, none⟩) n c vs (matF n (prs ((rs.zip ws).take k))) ∧ Below w0.heap.size w0 wq) (fun t _ => rs.length - (intOf t).toNat)
      case atStart => exact ⟨0, Nat.zero_le _, rfl, O3.out, B2.out⟩
      case round =>
        obtain ⟨k, hk, rfl, hO, hB⟩ := hrel
        have O4 := Lib.hid hO
        have B4 := Lib.hid hB
        clear hO hB O3 B2 H2 HC2
        by_cases hlk : k < rs.length
        · have d1 := decide_eq_true (show (k : Int) < (rs.length : Int) by omega)
          have H4 := H0.out
          obtain ⟨b, off, A', m, c', zs, rfl, hbb, cR0, iR, hz⟩ := H4.rows.at hlk
          have cR := (B4.out.cell (p := ⟨b, off + k, none⟩) hbb).trans cR0
          obtain ⟨r, hr, rfl⟩ := rows_at' hz.out
          have lr := OK.out.len (List.mem_of_getElem? hr)
          have e1 := iR.1
          rw [zr_len] at e1
          obtain rfl : n = m := by omega
          obtain ⟨bl, ol, _, rfl, hbl, _, _, _, _⟩ := iR.at (j := 0) (by omega)
          obtain ⟨gw, ow, v, rfl, hbw, cw, _, _, hv⟩ := H4.wts.at hlk
          have V := OK.out.wt v (List.mem_of_getElem? hv.out)
          have v0 := V.1
          have v1 := V.2
          have NX := Lib.hid (show (rs.zip ws).take (k + 1) = (rs.zip ws).take k ++ [(r, v)] from by
            rw [List.take_add_one, show (rs.zip ws)[k]? = some (r, v) from List.getElem?_zip_eq_some.2 ⟨hr, hv.out⟩]; rfl)
          have RL := Lib.hid (fun x hx => OK.out.lt (List.mem_of_getElem? hr) (x := x) hx)
          have IR := Lib.hid iR
          have CW := Lib.hid cw
          have HB4 := B4.out.size
          obtain ⟨P, hP⟩ : ∃ P, prs ((rs.zip ws).take k) = P := ⟨_, rfl⟩
          have PB4 := Lib.hid (fun a b => PB.out k a b)
          rw [hP] at O4 PB4
          have HPP := Lib.hid hP
          have k0 : (0 : Int) ≤ (k : Int) := by omega
          have k1 : (k : Int) < (rs.length : Int) := by omega
          have HH := Lib.hid (fun j (hj : j < n) => iR.at hj)
          clear H4 hz hr hv cw e1 V hP cR0
          go_wp2_with fail
          clear cR
          go_loopw [32] (fun t wq => ∃ i : Nat, i ≤ n ∧ t = .int .i64 i ∧ OwnM wq (w.heap.size + 1) (some ⟨g, 0, none⟩) n c vs (matF n (stP P v r i 0)) ∧ Below w0.heap.size w0 wq) (fun t _ => n - (intOf t).toNat)
          case atStart =>
            refine ⟨0, Nat.zero_le _, rfl, ?_, B4.out⟩
            rw [matF_congr (K := P) (fun a b _ _ => by rw [stP_zero]; show P a b + v * 0 = _; omega)]
            exact O4.out
          case round =>
            obtain ⟨i, hi2, rfl, hO, hB⟩ := hrel
            have O5 := Lib.hid hO
            have B5 := Lib.hid hB
            clear hO hB
            by_cases hli : i < n
            · have d2 := decide_eq_true (show (i : Int) < (n : Int) by omega)
              have i0 : (0 : Int) ≤ (i : Int) := by omega
              have i1 : (i : Int) < (n : Int) := by omega
              obtain ⟨_, _, zx, ex, _, cx, _, _, hzx⟩ := (iR.below B5.out).at (j := i) hli
              simp only [Option.some.injEq, Addr.mk.injEq, and_true] at ex
              obtain ⟨rfl, rfl⟩ := ex
              obtain ⟨x, hx, rfl⟩ := zr_at' hzx.out
              have xn := RL.out x (List.mem_of_getElem? hx)
              have HX := Lib.hid hx
              clear hx hzx
              by_cases hcc : c' = i + 1
              · subst hcc
                have hn1 : n - (i + 1) = 0 := by have := iR.2.1; omega
                go_wp2_with fail
                go_loopw [42] (fun t wq => t = .int .i64 0 ∧ wq = wr) (fun t _ => 0)
                case atStart => exact ⟨rfl, rfl⟩
                case round =>
                  obtain ⟨rfl, rfl⟩ := hrel
                  have dz : decide ((0 : Int) < ((n - (i + 1) : Nat) : Int)) = false := decide_eq_false (by omega)
                  have O6 := Lib.hid (show OwnM wr (w.heap.size + 1) (some ⟨g, 0, none⟩) n c vs (matF n (stP P v r (i + 1) 0)) from by
                    rw [matF_congr (K := stP P v r i 0) (fun a b _ _ => by rw [stP_zero, ← stP_end P v r i 0 a b (by omega)])]
                    exact O5.out)
                  clear hn1
                  go_wp2_with fail
                  go_roundw
                  case rel => exact ⟨i + 1, by omega, by go_num, O6.out, B5.out⟩
                  case measure => simp [intOf]; omega
              · have hcd : ¬ i + 1 = c' := fun h => hcc h.symm
                go_wp2_with fail
                go_loopw [42] (fun t wq => ∃ j : Nat, j ≤ n - (i + 1) ∧ t = .int .i64 j ∧ OwnM wq (w.heap.size + 1) (some ⟨g, 0, none⟩) n c vs (matF n (stP P v r i j)) ∧ Below w0.heap.size w0 wq) (fun t _ => n - (i + 1) - (intOf t).toNat)
                case atStart => exact ⟨0, Nat.zero_le _, rfl, O5.out, B5.out⟩
                case round =>
                  obtain ⟨j, hj, rfl, hO, hB⟩ := hrel
                  have O6 := Lib.hid hO
                  have B6 := Lib.hid hB
                  clear hO hB
                  by_cases hlj : j < n - (i + 1)
                  · have d3 := decide_eq_true (show (j : Int) < ((n - (i + 1) : Nat) : Int) by omega)
                    have j0 : (0 : Int) ≤ (j : Int) := by omega
                    have j1 : (j : Int) < ((n - (i + 1) : Nat) : Int) := by omega
                    obtain ⟨_, _, zy, ey, _, cy, _, _, hzy⟩ := (iR.below B6.out).at (j := i + 1 + j) (by omega)
                    simp only [Option.some.injEq, Addr.mk.injEq, and_true] at ey
                    obtain ⟨rfl, rfl⟩ := ey
                    obtain ⟨y, hy, rfl⟩ := zr_at' hzy.out
                    have yn := RL.out y (List.mem_of_getElem? hy)
                    rw [← Nat.add_assoc] at cy
                    obtain ⟨gi, ci, RW⟩ := (show OwnM wr.drew (w.heap.size + 1) (some ⟨g, 0, none⟩) n c vs (matF n (stP P v r i j)) from O6.out.below ⟨rfl, rfl, rfl, Nat.le_refl _, fun _ _ => rfl⟩).rowAt xn
                    have bd := stP_bd (B := P) (v := v) (r := r) (i := i) (j := j) (a := x) (b := y) v0 v1 (by omega) (by omega)
                    have pb := PB4.out x y
                    have pl := HPL.out k
                    have NXT := Lib.hid (fun a b => stP_next P v r HX.out hy a b)
                    have cq := RW.at' y yn
                    obtain ⟨q, hq⟩ : ∃ q, stP P v r i j x y = q := ⟨_, rfl⟩
                    rw [hq] at bd cq NXT
                    have ew : IntKind.i64.wrap (q + v) = q + v := IntWalk.i64_in _ (by omega)
                    have x0 : (0 : Int) ≤ (x : Int) := by omega
                    have x1 : (x : Int) < (n : Int) := by omega
                    have y0' : (0 : Int) ≤ (y : Int) := by omega
                    have y1' : (y : Int) < (n : Int) := by omega
                    have q1 : -9223372036854775808 ≤ q + v := by omega
                    have q2 : q + v ≤ 9223372036854775807 := by omega
                    have rc0 := RW.cell
                    have fr := RW.free y
                    have PUT := Lib.hid (RW.put y (q + v) yn q1 q2)
                    have x8 := (CC.out.below B6.out).cell 1 rfl
                    have cw6 := (B6.out.cell (p := ⟨gw, ow + k, none⟩) hbw).trans CW.out
                    have gilt := RW.ge
                    clear bd pb pl hq hy hzy RW
                    go_wp2_with fail
                    refine wp_region_noPanic ?_
                    refine wp_region_R (inFirst (fun W => W.cell? ⟨g, x, none⟩ = some (.slice (some ⟨gi, 0, none⟩) n ci) ∧ W.cell? ⟨gi, y, none⟩ = some (.int .i64 q) ∧ W.cell? ⟨w.heap.size, 1, none⟩ = some (.slice (some ⟨gw, ow, none⟩) rs.length wc) ∧ W.cell? ⟨gw, ow + k, none⟩ = some (.int .i64 v)) 14) (by kernel_rfl) ?_
                    have hS : wr.drew.cell? ⟨g, x, none⟩ = some (.slice (some ⟨gi, 0, none⟩) n ci) ∧ wr.drew.cell? ⟨gi, y, none⟩ = some (.int .i64 q) ∧ wr.drew.cell? ⟨w.heap.size, 1, none⟩ = some (.slice (some ⟨gw, ow, none⟩) rs.length wc) ∧ wr.drew.cell? ⟨gw, ow + k, none⟩ = some (.int .i64 v) := ⟨rc0, cq, x8, cw6⟩
                    refine anyR_take (i := 0) (.slice (some ⟨g, 0, none⟩) n c) rfl (by kernel_rfl) (by kernel_rfl) (by kernel_rfl) (by kernel_rfl) (fun _ _ _ h => h) (by assumption) ⟨by rfl, ?_⟩ ?_
                    · intro W hW
                      go_simp
                    try simp only [Act.put, List.setIfInBounds_toArray, List.set_cons_zero, List.set_cons_succ, List.getElem_toArray, List.getElem_cons_zero, List.getElem_cons_succ]
                    refine anyR_take (i := 1) (.int .i64 x) rfl (by kernel_rfl) (by kernel_rfl) (by kernel_rfl) (by kernel_rfl) (fun _ _ _ h => h) (by assumption) ⟨by rfl, ?_⟩ ?_
                    · intro W hW
                      go_simp
                    try simp only [Act.put, List.setIfInBounds_toArray, List.set_cons_zero, List.set_cons_succ, List.getElem_toArray, List.getElem_cons_zero, List.getElem_cons_succ]
                    refine anyR_take (i := 2) (.pointer (some ⟨g, x, none⟩)) rfl (by kernel_rfl) (by kernel_rfl) (by kernel_rfl) (by kernel_rfl) (fun _ _ _ h => h) (by assumption) ⟨by rfl, ?_⟩ ?_
                    · intro W hW
                      go_simp
                    try simp only [Act.put, List.setIfInBounds_toArray, List.set_cons_zero, List.set_cons_succ, List.getElem_toArray, List.getElem_cons_zero, List.getElem_cons_succ]
                    refine anyR_take (i := 3) (.slice (some ⟨gi, 0, none⟩) n ci) rfl (by kernel_rfl) (by kernel_rfl) (by kernel_rfl) (by kernel_rfl) (fun _ _ _ h => h) (by assumption) ⟨by rfl, ?_⟩ ?_
                    · intro W hW
                      go_simp
                    try simp only [Act.put, List.setIfInBounds_toArray, List.set_cons_zero, List.set_cons_succ, List.getElem_toArray, List.getElem_cons_zero, List.getElem_cons_succ]
                    refine anyR_take (i := 4) (.int .i64 y) rfl (by kernel_rfl) (by kernel_rfl) (by kernel_rfl) (by kernel_rfl) (fun _ _ _ h => h) (by assumption) ⟨by rfl, ?_⟩ ?_
                    · intro W hW
                      go_simp
                    try simp only [Act.put, List.setIfInBounds_toArray, List.set_cons_zero, List.set_cons_succ, List.getElem_toArray, List.getElem_cons_zero, List.getElem_cons_succ]
                    refine anyR_take (i := 5) (.pointer (some ⟨gi, y, none⟩)) rfl (by kernel_rfl) (by kernel_rfl) (by kernel_rfl) (by kernel_rfl) (fun _ _ _ h => h) (by assumption) ⟨by rfl, ?_⟩ ?_
                    · intro W hW
                      go_simp
                    try simp only [Act.put, List.setIfInBounds_toArray, List.set_cons_zero, List.set_cons_succ, List.getElem_toArray, List.getElem_cons_zero, List.getElem_cons_succ]
                    refine anyR_take (i := 6) (.int .i64 q) rfl (by kernel_rfl) (by kernel_rfl) (by kernel_rfl) (by kernel_rfl) (fun _ _ _ h => h) (by assumption) ⟨by rfl, ?_⟩ ?_
                    · intro W hW
                      go_simp
                    try simp only [Act.put, List.setIfInBounds_toArray, List.set_cons_zero, List.set_cons_succ, List.getElem_toArray, List.getElem_cons_zero, List.getElem_cons_succ]
                    refine anyR_take (i := 7) (.pointer (some ⟨w.heap.size, 1, none⟩)) rfl (by kernel_rfl) (by kernel_rfl) (by kernel_rfl) (by kernel_rfl) (fun _ _ _ h => h) (by assumption) ⟨by rfl, ?_⟩ ?_
                    · intro W hW
                      go_simp
                    try simp only [Act.put, List.setIfInBounds_toArray, List.set_cons_zero, List.set_cons_succ, List.getElem_toArray, List.getElem_cons_zero, List.getElem_cons_succ]
                    refine anyR_take (i := 8) (.slice (some ⟨gw, ow, none⟩) rs.length wc) rfl (by kernel_rfl) (by kernel_rfl) (by kernel_rfl) (by kernel_rfl) (fun _ _ _ h => h) (by assumption) ⟨by rfl, ?_⟩ ?_
                    · intro W hW
                      go_simp
                    try simp only [Act.put, List.setIfInBounds_toArray, List.set_cons_zero, List.set_cons_succ, List.getElem_toArray, List.getElem_cons_zero, List.getElem_cons_succ]
                    refine anyR_take (i := 9) (.int .i64 k) rfl (by kernel_rfl) (by kernel_rfl) (by kernel_rfl) (by kernel_rfl) (fun _ _ _ h => h) (by assumption) ⟨by rfl, ?_⟩ ?_
                    · intro W hW
                      go_simp
                    try simp only [Act.put, List.setIfInBounds_toArray, List.set_cons_zero, List.set_cons_succ, List.getElem_toArray, List.getElem_cons_zero, List.getElem_cons_succ]
                    refine anyR_take (i := 10) (.pointer (some ⟨gw, ow + k, none⟩)) rfl (by kernel_rfl) (by kernel_rfl) (by kernel_rfl) (by kernel_rfl) (fun _ _ _ h => h) (by assumption) ⟨by rfl, ?_⟩ ?_
                    · intro W hW
                      go_simp
                    try simp only [Act.put, List.setIfInBounds_toArray, List.set_cons_zero, List.set_cons_succ, List.getElem_toArray, List.getElem_cons_zero, List.getElem_cons_succ]
                    refine anyR_take (i := 11) (.int .i64 v) rfl (by kernel_rfl) (by kernel_rfl) (by kernel_rfl) (by kernel_rfl) (fun _ _ _ h => h) (by assumption) ⟨by rfl, ?_⟩ ?_
                    · intro W hW
                      go_simp
                    try simp only [Act.put, List.setIfInBounds_toArray, List.set_cons_zero, List.set_cons_succ, List.getElem_toArray, List.getElem_cons_zero, List.getElem_cons_succ]
                    refine anyR_take (i := 12) (.int .i64 (q + v)) rfl (by kernel_rfl) (by kernel_rfl) (by kernel_rfl) (by kernel_rfl) (fun _ _ _ h => h) (by assumption) ⟨by rfl, ?_⟩ ?_
                    · intro W hW
                      go_simp
                    try simp only [Act.put, List.setIfInBounds_toArray, List.set_cons_zero, List.set_cons_succ, List.getElem_toArray, List.getElem_cons_zero, List.getElem_cons_succ]
                    refine anyR_take (i := 13) (.pointer (some ⟨gi, y, none⟩)) rfl (by kernel_rfl) (by kernel_rfl) (by kernel_rfl) (by kernel_rfl) (fun _ _ _ h => h) (by assumption) ⟨by rfl, ?_⟩ ?_
                    · intro W hW
                      go_simp
                    try simp only [Act.put, List.setIfInBounds_toArray, List.set_cons_zero, List.set_cons_succ, List.getElem_toArray, List.getElem_cons_zero, List.getElem_cons_succ]
                    refine anyR_one (i := 14) (by kernel_rfl) rfl ?_
                    intro K hK
                    go_simp
                    refine hK.out _ _ (fun h => absurd h (by decide)) ?_
                    clear hK K
                    try simp only [Act.put, List.setIfInBounds_toArray, List.set_cons_zero, List.set_cons_succ, List.getElem_toArray, List.getElem_cons_zero, List.getElem_cons_succ]
                    refine anyR_done (by kernel_rfl) ?_ _
                    refine NoPanic.normal ?_
                    clear hS rc0 cq x8 cw6 cy
                    go_wp2_with fail
                    go_roundw
                    case rel =>
                      refine ⟨j + 1, by omega, by go_num, ?_, (bel_trans B6.out (show Below wr.heap.size wr wr.drew from ⟨rfl, rfl, rfl, Nat.le_refl _, fun _ _ => rfl⟩)).setCell (by show _ ≤ gi; omega) _⟩
                      rw [matF_congr (K := fun a b => if a = x ∧ b = y then q + v else stP P v r i j a b) (fun a b _ _ => NXT.out a b)]
                      exact PUT.out
                    case measure => simp [intOf]; omega
                  · have hj2 : j = n - (i + 1) := by omega
                    have d3 := decide_eq_false (show ¬ (j : Int) < ((n - (i + 1) : Nat) : Int) by omega)
                    have O7 := Lib.hid (show OwnM wr (w.heap.size + 1) (some ⟨g, 0, none⟩) n c vs (matF n (stP P v r (i + 1) 0)) from by
                      rw [matF_congr (K := stP P v r i j) (fun a b _ _ => by rw [stP_zero, ← stP_end P v r i j a b (by omega)])]
                      exact O6.out)
                    clear hj2
                    go_wp2_with fail
                    go_roundw
                    case rel => exact ⟨i + 1, by omega, by go_num, O7.out, B6.out⟩
                    case measure => simp [intOf]; omega
            · obtain rfl : n = i := by omega
              have d2 := decide_eq_false (show ¬ (n : Int) < (n : Int) by omega)
              have O6 := Lib.hid (show OwnM wr (w.heap.size + 1) (some ⟨g, 0, none⟩) n c vs (matF n (prs ((rs.zip ws).take (k + 1)))) from by
                rw [matF_congr (K := stP P v r n 0) (fun a b _ _ => by rw [NX.out, prs_snoc, HPP.out, stP_zero]; rw [show n = r.length from lr.symm, pI_all])]
                exact O5.out)
              go_wp2_with fail
              go_roundw
              case rel => exact ⟨k + 1, by omega, by go_num, O6.out, B5.out⟩
              case measure => simp [intOf]; omega
        · have d1 := decide_eq_false (show ¬ (k : Int) < (rs.length : Int) by omega)
          have O5 := Lib.hid (show OwnM wr w.heap.size (some ⟨g, 0, none⟩) n c vs (matF n (prs (rs.zip ws))) from by
            have := O4.out.mono (b2 := w.heap.size) (by omega)
            rwa [List.take_of_length_le (by rw [List.length_zip]; omega)] at this)
          have BE := Lib.hid (bel_trans BA.out B4.out)
          go_wp2_with fail
          go_ret
          exact ⟨g, c, vs, rfl, O5.out, BE.out⟩
end Go.Proofs.Ytikcbconfinibaa
