/- The law FnReversed, walked. -/
import Derived.Test.YtikcbconfinibaaRkRev
import Derived.Test.YtikcbconfinibaaRkWin
import Derived.Test.YtikcbconfinibaaSkip
namespace Go.Proofs.Ytikcbconfinibaa
set_option linter.unusedVariables false
set_option linter.unusedSimpArgs false
set_option maxRecDepth 100000
open Go.RowKit Go.Deep
theorem r8Square_ok (n : Nat) (hn : n ≤ 6) (M : Nat → Nat → Int) (A : Option Addr) (c : Nat) (w : World) (h : Rws w A n c (matF n M)) :
    Calls Try.prog 12 #[.slice A n c, .int .i64 n] w fun e w' => e = .returned (.bool true) ∧ w = w' := by
  have nn : ((n : Int) != (n : Int)) = false := by simp
  have ne : ((n : Int) == (n : Int)) = true := by simp
  go_enter Try.func12, Try.ntmps12
  go_wp2_with fail
  go_loop [5] (fun t => ∃ k : Nat, k ≤ n ∧ t = .int .i64 k) (fun t => n - (intOf t).toNat)
  case atStart => exact ⟨0, Nat.zero_le _, rfl⟩
  case round =>
    obtain ⟨k, hk, rfl⟩ := hrel
    by_cases hlt : k < n
    · have d0 := decide_eq_true (show (k : Int) < (n : Int) by omega)
      have k0 : (0 : Int) ≤ (k : Int) := by omega
      have k1 : (k : Int) < (n : Int) := by omega
      obtain ⟨b, off, A', m, c', zs, rfl, _, cR, iR, hz⟩ := h.at hlt
      have hzz := hz.out
      rw [matF_at M hlt] at hzz
      injection hzz with hzz
      subst hzz
      have e1 := iR.1
      rw [rowF_len] at e1
      obtain rfl : n = m := e1
      clear hz iR
      go_wp2_with fail
      go_round
      case rel => exact ⟨k + 1, by omega, by go_num⟩
      case measure => simp [intOf]; omega
    · obtain rfl : n = k := by omega
      have d0 := decide_eq_false (show ¬ (n : Int) < (n : Int) by omega)
      go_wp2_with fail
      go_ret
      exact ⟨rfl, rfl⟩
set_option maxHeartbeats 8000000 in
theorem fnReversed_walk (w : World) (A : Option Addr) (n c : Nat) (zs : List Int) (h : Ints .u8 w A n c zs) (B : Option Addr) (m d : Nat) (ys : List Int) (k : Ints .u8 w B m d ys) :
    Calls Try.prog 3 #[.slice A n c, .slice B m d] w fun e w' => e = .returned (.bool true) ∧ Below w.heap.size w w' := by
  have hn := h.short
  have hm := k.short
  by_cases h1 : (decide ((48 : Int) < n) || decide ((48 : Int) < m)) = true
  · have H1 := Lib.hid h1
    clear h1
    go_enter Try.func3, Try.ntmps3
    go_wp2_with fail
    refine (r8Long_any A n c B m d _ hn hm).mono ?_
    rintro e w1 ⟨rfl, rfl⟩
    rw [H1.out]
    go_wp2_with fail
    go_ret
    exact ⟨rfl, Below.refl _ _⟩
  · have H1 : Hid ((decide ((48 : Int) < n) || decide ((48 : Int) < m)) = false) := by show _ = _; simpa using h1
    clear h1
    go_enter Try.func3, Try.ntmps3
    go_wp2_with fail
    refine (r8Long_any A n c B m d _ hn hm).mono ?_
    rintro e w1 ⟨rfl, rfl⟩
    rw [H1.out]
    go_wp2_with fail
    refine (R8Profile_any A n c zs _ h).mono ?_
    rintro e w1 ⟨N, rs, ws, RA, rc, WA, wc, rfl, ok, hV, b1⟩
    have n1 := ok.n1
    have n6 := ok.n6
    have m1 := ok.m1
    have m12 := ok.m12
    have OK := Lib.hid ok
    have OKR := Lib.hid ok.rev
    have ba := bel_alloc w1 (.cells #[.slice RA rs.length rc, .slice WA rs.length wc] 27)
    have C1 := Lib.hid (Cs.new w1 [.slice RA rs.length rc, .slice WA rs.length wc] 27)
    have y0 := C1.out.cell 0 rfl
    have y1 := C1.out.cell 1 rfl
    have V1 := Lib.hid (hV.below ba)
    have B1 := Lib.hid (bel_trans b1 ba)
    obtain ⟨b, off, A0, m0, c0, zs0, rfl, _, cR0, iR0, hz0⟩ := V1.out.rows.at (j := 0) (by omega)
    obtain ⟨r0, hr0, rfl⟩ := rows_at hz0.out
    have lr0 := ok.len (List.mem_of_getElem? hr0)
    have e2 := iR0.1
    rw [zr_len] at e2
    obtain rfl : N = m0 := by omega
    rw [Nat.add_zero] at cR0
    have z1 : (0 : Int) < (rs.length : Int) := by omega
    clear ok hV b1 ba iR0 hz0 hr0 e2 lr0
    go_wp2_with fail
    have RV := Lib.hid (fun W hW => reverse_ok N rs ws OK.out (some ⟨b, off, none⟩) rc WA wc W hW)
    have EP := Lib.hid (show prs ((rs.map List.reverse).zip ws) = fun a b => prs (rs.zip ws) b a from funext fun a => funext fun b => prs_zrev rs ws a b)
    obtain ⟨rs', hrs'⟩ : ∃ r, rs.map List.reverse = r := ⟨_, rfl⟩
    rw [hrs'] at RV EP OKR
    clear hrs'
    refine (RV.out _ V1.out).mono ?_
    rintro e w2 ⟨RB, rb, WB, wb, rfl, hV2, b2⟩
    have bb := bel_alloc w2 (.cells #[.slice RB rs'.length rb, .slice WB rs'.length wb] 27)
    have D2 := Lib.hid (Cs.new w2 [.slice RB rs'.length rb, .slice WB rs'.length wb] 27)
    have C2 := Lib.hid (C1.out.below (bel_trans b2 bb))
    have V2 := Lib.hid (V1.out.below (bel_trans b2 bb))
    have U2 := Lib.hid (hV2.below bb)
    have B2 := Lib.hid (bel_trans B1.out (bel_trans b2 bb))
    clear y0 y1 cR0 hV2 b2 bb C1 V1 B1 RV
    have y0 := C2.out.cell 0 rfl
    have y1 := C2.out.cell 1 rfl
    go_wp2_with fail
    refine (countPairs_ok N rs ws OK.out _ rc WA wc _ V2.out).mono ?_
    rintro e w3 ⟨g1, c1, v1, rfl, o1, b3⟩
    have C3 := Lib.hid (C2.out.below b3)
    have D3 := Lib.hid (D2.out.below b3)
    have V3 := Lib.hid (V2.out.below b3)
    have U3 := Lib.hid (U2.out.below b3)
    have B3 := Lib.hid (bel_trans B2.out b3)
    have M1 := Lib.hid o1
    clear y0 y1 b3 o1 C2 D2 V2 U2 B2
    have y0 := D3.out.cell 0 rfl
    have y1 := D3.out.cell 1 rfl
    go_wp2_with fail
    refine (countPairs_ok N rs' ws OKR.out _ rb WB wb _ U3.out).mono ?_
    rintro e w4 ⟨g2, c2, v2, rfl, o2, b4⟩
    have C4 := Lib.hid (C3.out.below b4)
    have D4 := Lib.hid (D3.out.below b4)
    have V4 := Lib.hid (V3.out.below b4)
    have U4 := Lib.hid (U3.out.below b4)
    have B4 := Lib.hid (bel_trans B3.out b4)
    have M1' := Lib.hid (M1.out.below b4)
    have M2 := Lib.hid o2
    clear y0 y1 b4 o2 C3 D3 V3 U3 B3 M1
    have y0 := C4.out.cell 0 rfl
    have y1 := C4.out.cell 1 rfl
    go_wp2_with fail
    refine (pathStrengths_ok N rs ws OK.out _ rc WA wc _ V4.out).mono ?_
    rintro e w5 ⟨g3, c3, v3, rfl, o3, b5⟩
    have C5 := Lib.hid (C4.out.below b5)
    have D5 := Lib.hid (D4.out.below b5)
    have V5 := Lib.hid (V4.out.below b5)
    have U5 := Lib.hid (U4.out.below b5)
    have B5 := Lib.hid (bel_trans B4.out b5)
    have M1'' := Lib.hid (M1'.out.below b5)
    have M2' := Lib.hid (M2.out.below b5)
    have M3 := Lib.hid o3
    clear y0 y1 b5 o3 C4 D4 V4 U4 B4 M1' M2
    have y0 := D5.out.cell 0 rfl
    have y1 := D5.out.cell 1 rfl
    go_wp2_with fail
    refine (pathStrengths_ok N rs' ws OKR.out _ rb WB wb _ U5.out).mono ?_
    rintro e w6 ⟨g4, c4, v4, rfl, o4, b6⟩
    have C6 := Lib.hid (C5.out.below b6)
    have D6 := Lib.hid (D5.out.below b6)
    have V6 := Lib.hid (V5.out.below b6)
    have U6 := Lib.hid (U5.out.below b6)
    have B6 := Lib.hid (bel_trans B5.out b6)
    have N1 := Lib.hid (M1''.out.below b6)
    have N2 := Lib.hid (M2'.out.below b6)
    have N3 := Lib.hid (M3.out.below b6)
    have N4 := Lib.hid o4
    clear y0 y1 b6 o4 C5 D5 V5 U5 B5 M1'' M2' M3
    obtain ⟨P, hP⟩ : ∃ P, prs (rs.zip ws) = P := ⟨_, rfl⟩
    have SW := Lib.hid (fun W hW => schulze_ok N rs ws OK.out (some ⟨b, off, none⟩) rc WA wc W hW)
    have SW' := Lib.hid (fun W hW => schulze_ok N rs' ws OKR.out RB rb WB wb W hW)
    have ES : Hid (strg N (fun a b => P b a) = fun a b => strg N P b a) := funext fun a => funext fun b => strg_tr N P a b
    have CL := Lib.hid (show Clo N (strg N P) from fw_closed N (ini P))
    have CL' := Lib.hid (show Clo N (fun a b => strg N P b a) from by rw [← ES.out]; exact fw_closed N _)
    rw [hP] at N1 N3 SW EP
    rw [EP.out] at N2 N4 SW'
    rw [ES.out] at N4 SW'
    obtain ⟨S, hS⟩ : ∃ S, strg N P = S := ⟨_, rfl⟩
    rw [hS] at N3 N4 SW SW' CL CL'
    have W1 := Lib.hid (wn_some CL.out (by omega))
    have W2 := Lib.hid (wn_some CL'.out (by omega))
    have WR := Lib.hid (fun h1 h2 x hx => wn_rev CL.out h1 h2 (x := x) hx)
    clear hP ES EP hS
    go_wp2_with fail
    refine (r8Square_ok N n6 _ _ c1 w6 N1.out.rws).mono ?_
    rintro e w7 ⟨rfl, rfl⟩
    go_wp2_with fail
    refine (r8Square_ok N n6 _ _ c2 w6 N2.out.rws).mono ?_
    rintro e w7 ⟨rfl, rfl⟩
    go_wp2_with fail
    refine (r8Square_ok N n6 _ _ c3 w6 N3.out.rws).mono ?_
    rintro e w7 ⟨rfl, rfl⟩
    go_wp2_with fail
    refine (r8Square_ok N n6 _ _ c4 w6 N4.out.rws).mono ?_
    rintro e w7 ⟨rfl, rfl⟩
    go_wp2_with fail
    go_loopw [17] (fun t wr => ∃ i : Nat, i ≤ N ∧ t = .int .i64 i ∧ Below w6.heap.size w6 wr) (fun t _ => N - (intOf t).toNat)
    case atStart => exact ⟨0, Nat.zero_le _, rfl, Below.refl _ _⟩
    case round =>
      obtain ⟨i, hi, rfl, hB⟩ := hrel
      have BX := Lib.hid hB
      clear hB
      by_cases hlt : i < N
      · have d0 := decide_eq_true (show (i : Int) < (N : Int) by omega)
        go_wp2_with fail
        go_loopw [18] (fun t wr => ∃ j : Nat, j ≤ N ∧ t = .int .i64 j ∧ Below w6.heap.size w6 wr) (fun t _ => N - (intOf t).toNat)
        case atStart => exact ⟨0, Nat.zero_le _, rfl, BX.out⟩
        case round =>
          obtain ⟨j, hj, rfl, hB⟩ := hrel
          have BY := Lib.hid hB
          clear hB BX
          by_cases hlj : j < N
          · have d1 := decide_eq_true (show (j : Int) < (N : Int) by omega)
            obtain ⟨a1, e1, R1⟩ := (N1.out.below BY.out).rowAt hlt
            obtain ⟨a2, e2, R2⟩ := (N2.out.below BY.out).rowAt hlj
            obtain ⟨a3, e3, R3⟩ := (N3.out.below BY.out).rowAt hlt
            obtain ⟨a4, e4, R4⟩ := (N4.out.below BY.out).rowAt hlj
            have u1 := R1.cell
            have x1 := R1.at' j hlj
            have u2 := R2.cell
            have x2 := R2.at' i hlt
            have u3 := R3.cell
            have x3 := R3.at' j hlj
            have u4 := R4.cell
            have x4 := R4.at' i hlt
            obtain ⟨x, hx⟩ : ∃ x, P i j = x := ⟨_, rfl⟩
            obtain ⟨y, hy⟩ : ∃ x, S i j = x := ⟨_, rfl⟩
            rw [hx] at x1 x2
            rw [hy] at x3 x4
            have i0 : (0 : Int) ≤ (i : Int) := by omega
            have i1 : (i : Int) < (N : Int) := by omega
            have j0 : (0 : Int) ≤ (j : Int) := by omega
            have j1 : (j : Int) < (N : Int) := by omega
            have nx : (x != x) = false := by simp
            have ny : (y != y) = false := by simp
            clear hx hy R1 R2 R3 R4
            go_wp2_with fail
            refine wp_region_noPanic ?_
            refine wp_region_R (inFirst (fun W => W.cell? ⟨g1, i, none⟩ = some (.slice (some ⟨a1, 0, none⟩) N e1) ∧ W.cell? ⟨a1, j, none⟩ = some (.int .i64 x) ∧ W.cell? ⟨g2, j, none⟩ = some (.slice (some ⟨a2, 0, none⟩) N e2) ∧ W.cell? ⟨a2, i, none⟩ = some (.int .i64 x) ∧ W.cell? ⟨g3, i, none⟩ = some (.slice (some ⟨a3, 0, none⟩) N e3) ∧ W.cell? ⟨a3, j, none⟩ = some (.int .i64 y) ∧ W.cell? ⟨g4, j, none⟩ = some (.slice (some ⟨a4, 0, none⟩) N e4) ∧ W.cell? ⟨a4, i, none⟩ = some (.int .i64 y)) 32) (by kernel_rfl) ?_
            have hS : wr.drew.cell? ⟨g1, i, none⟩ = some (.slice (some ⟨a1, 0, none⟩) N e1) ∧ wr.drew.cell? ⟨a1, j, none⟩ = some (.int .i64 x) ∧ wr.drew.cell? ⟨g2, j, none⟩ = some (.slice (some ⟨a2, 0, none⟩) N e2) ∧ wr.drew.cell? ⟨a2, i, none⟩ = some (.int .i64 x) ∧ wr.drew.cell? ⟨g3, i, none⟩ = some (.slice (some ⟨a3, 0, none⟩) N e3) ∧ wr.drew.cell? ⟨a3, j, none⟩ = some (.int .i64 y) ∧ wr.drew.cell? ⟨g4, j, none⟩ = some (.slice (some ⟨a4, 0, none⟩) N e4) ∧ wr.drew.cell? ⟨a4, i, none⟩ = some (.int .i64 y) := ⟨u1, x1, u2, x2, u3, x3, u4, x4⟩
            refine anyR_take (i := 0) (.slice (some ⟨g1, 0, none⟩) N c1) rfl (by kernel_rfl) (by kernel_rfl) (by kernel_rfl) (by kernel_rfl) (fun _ _ _ h => h) (by assumption) ⟨by rfl, ?_⟩ ?_
            · intro W hW
              go_simp
            try simp only [Act.put, List.setIfInBounds_toArray, List.set_cons_zero, List.set_cons_succ, List.getElem_toArray, List.getElem_cons_zero, List.getElem_cons_succ]
            refine anyR_take (i := 1) (.int .i64 i) rfl (by kernel_rfl) (by kernel_rfl) (by kernel_rfl) (by kernel_rfl) (fun _ _ _ h => h) (by assumption) ⟨by rfl, ?_⟩ ?_
            · intro W hW
              go_simp
            try simp only [Act.put, List.setIfInBounds_toArray, List.set_cons_zero, List.set_cons_succ, List.getElem_toArray, List.getElem_cons_zero, List.getElem_cons_succ]
            refine anyR_take (i := 2) (.pointer (some ⟨g1, i, none⟩)) rfl (by kernel_rfl) (by kernel_rfl) (by kernel_rfl) (by kernel_rfl) (fun _ _ _ h => h) (by assumption) ⟨by rfl, ?_⟩ ?_
            · intro W hW
              go_simp
            try simp only [Act.put, List.setIfInBounds_toArray, List.set_cons_zero, List.set_cons_succ, List.getElem_toArray, List.getElem_cons_zero, List.getElem_cons_succ]
            refine anyR_take (i := 3) (.slice (some ⟨a1, 0, none⟩) N e1) rfl (by kernel_rfl) (by kernel_rfl) (by kernel_rfl) (by kernel_rfl) (fun _ _ _ h => h) (by assumption) ⟨by rfl, ?_⟩ ?_
            · intro W hW
              go_simp
            try simp only [Act.put, List.setIfInBounds_toArray, List.set_cons_zero, List.set_cons_succ, List.getElem_toArray, List.getElem_cons_zero, List.getElem_cons_succ]
            refine anyR_take (i := 4) (.int .i64 j) rfl (by kernel_rfl) (by kernel_rfl) (by kernel_rfl) (by kernel_rfl) (fun _ _ _ h => h) (by assumption) ⟨by rfl, ?_⟩ ?_
            · intro W hW
              go_simp
            try simp only [Act.put, List.setIfInBounds_toArray, List.set_cons_zero, List.set_cons_succ, List.getElem_toArray, List.getElem_cons_zero, List.getElem_cons_succ]
            refine anyR_take (i := 5) (.pointer (some ⟨a1, j, none⟩)) rfl (by kernel_rfl) (by kernel_rfl) (by kernel_rfl) (by kernel_rfl) (fun _ _ _ h => h) (by assumption) ⟨by rfl, ?_⟩ ?_
            · intro W hW
              go_simp
            try simp only [Act.put, List.setIfInBounds_toArray, List.set_cons_zero, List.set_cons_succ, List.getElem_toArray, List.getElem_cons_zero, List.getElem_cons_succ]
            refine anyR_take (i := 6) (.int .i64 x) rfl (by kernel_rfl) (by kernel_rfl) (by kernel_rfl) (by kernel_rfl) (fun _ _ _ h => h) (by assumption) ⟨by rfl, ?_⟩ ?_
            · intro W hW
              go_simp
            try simp only [Act.put, List.setIfInBounds_toArray, List.set_cons_zero, List.set_cons_succ, List.getElem_toArray, List.getElem_cons_zero, List.getElem_cons_succ]
            refine anyR_take (i := 7) (.slice (some ⟨g2, 0, none⟩) N c2) rfl (by kernel_rfl) (by kernel_rfl) (by kernel_rfl) (by kernel_rfl) (fun _ _ _ h => h) (by assumption) ⟨by rfl, ?_⟩ ?_
            · intro W hW
              go_simp
            try simp only [Act.put, List.setIfInBounds_toArray, List.set_cons_zero, List.set_cons_succ, List.getElem_toArray, List.getElem_cons_zero, List.getElem_cons_succ]
            refine anyR_take (i := 8) (.int .i64 j) rfl (by kernel_rfl) (by kernel_rfl) (by kernel_rfl) (by kernel_rfl) (fun _ _ _ h => h) (by assumption) ⟨by rfl, ?_⟩ ?_
            · intro W hW
              go_simp
            try simp only [Act.put, List.setIfInBounds_toArray, List.set_cons_zero, List.set_cons_succ, List.getElem_toArray, List.getElem_cons_zero, List.getElem_cons_succ]
            refine anyR_take (i := 9) (.pointer (some ⟨g2, j, none⟩)) rfl (by kernel_rfl) (by kernel_rfl) (by kernel_rfl) (by kernel_rfl) (fun _ _ _ h => h) (by assumption) ⟨by rfl, ?_⟩ ?_
            · intro W hW
              go_simp
            try simp only [Act.put, List.setIfInBounds_toArray, List.set_cons_zero, List.set_cons_succ, List.getElem_toArray, List.getElem_cons_zero, List.getElem_cons_succ]
            refine anyR_take (i := 10) (.slice (some ⟨a2, 0, none⟩) N e2) rfl (by kernel_rfl) (by kernel_rfl) (by kernel_rfl) (by kernel_rfl) (fun _ _ _ h => h) (by assumption) ⟨by rfl, ?_⟩ ?_
            · intro W hW
              go_simp
            try simp only [Act.put, List.setIfInBounds_toArray, List.set_cons_zero, List.set_cons_succ, List.getElem_toArray, List.getElem_cons_zero, List.getElem_cons_succ]
            refine anyR_take (i := 11) (.int .i64 i) rfl (by kernel_rfl) (by kernel_rfl) (by kernel_rfl) (by kernel_rfl) (fun _ _ _ h => h) (by assumption) ⟨by rfl, ?_⟩ ?_
            · intro W hW
              go_simp
            try simp only [Act.put, List.setIfInBounds_toArray, List.set_cons_zero, List.set_cons_succ, List.getElem_toArray, List.getElem_cons_zero, List.getElem_cons_succ]
            refine anyR_take (i := 12) (.pointer (some ⟨a2, i, none⟩)) rfl (by kernel_rfl) (by kernel_rfl) (by kernel_rfl) (by kernel_rfl) (fun _ _ _ h => h) (by assumption) ⟨by rfl, ?_⟩ ?_
            · intro W hW
              go_simp
            try simp only [Act.put, List.setIfInBounds_toArray, List.set_cons_zero, List.set_cons_succ, List.getElem_toArray, List.getElem_cons_zero, List.getElem_cons_succ]
            refine anyR_take (i := 13) (.int .i64 x) rfl (by kernel_rfl) (by kernel_rfl) (by kernel_rfl) (by kernel_rfl) (fun _ _ _ h => h) (by assumption) ⟨by rfl, ?_⟩ ?_
            · intro W hW
              go_simp
            try simp only [Act.put, List.setIfInBounds_toArray, List.set_cons_zero, List.set_cons_succ, List.getElem_toArray, List.getElem_cons_zero, List.getElem_cons_succ]
            refine anyR_take (i := 14) (.bool false) rfl (by kernel_rfl) (by kernel_rfl) (by kernel_rfl) (by kernel_rfl) (fun _ _ _ h => h) (by assumption) ⟨by rfl, ?_⟩ ?_
            · intro W hW
              go_simp
            try simp only [Act.put, List.setIfInBounds_toArray, List.set_cons_zero, List.set_cons_succ, List.getElem_toArray, List.getElem_cons_zero, List.getElem_cons_succ]
            refine anyR_take (i := 15) (.bool false) rfl (by kernel_rfl) (by kernel_rfl) (by kernel_rfl) (by kernel_rfl) (fun _ _ _ h => h) (by assumption) ⟨by rfl, ?_⟩ ?_
            · intro W hW
              go_simp
            try simp only [Act.put, List.setIfInBounds_toArray, List.set_cons_zero, List.set_cons_succ, List.getElem_toArray, List.getElem_cons_zero, List.getElem_cons_succ]
            refine anyR_take (i := 16) (.slice (some ⟨g3, 0, none⟩) N c3) rfl (by kernel_rfl) (by kernel_rfl) (by kernel_rfl) (by kernel_rfl) (fun _ _ _ h => h) (by assumption) ⟨by rfl, ?_⟩ ?_
            · intro W hW
              go_simp
            try simp only [Act.put, List.setIfInBounds_toArray, List.set_cons_zero, List.set_cons_succ, List.getElem_toArray, List.getElem_cons_zero, List.getElem_cons_succ]
            refine anyR_take (i := 17) (.int .i64 i) rfl (by kernel_rfl) (by kernel_rfl) (by kernel_rfl) (by kernel_rfl) (fun _ _ _ h => h) (by assumption) ⟨by rfl, ?_⟩ ?_
            · intro W hW
              go_simp
            try simp only [Act.put, List.setIfInBounds_toArray, List.set_cons_zero, List.set_cons_succ, List.getElem_toArray, List.getElem_cons_zero, List.getElem_cons_succ]
            refine anyR_take (i := 18) (.pointer (some ⟨g3, i, none⟩)) rfl (by kernel_rfl) (by kernel_rfl) (by kernel_rfl) (by kernel_rfl) (fun _ _ _ h => h) (by assumption) ⟨by rfl, ?_⟩ ?_
            · intro W hW
              go_simp
            try simp only [Act.put, List.setIfInBounds_toArray, List.set_cons_zero, List.set_cons_succ, List.getElem_toArray, List.getElem_cons_zero, List.getElem_cons_succ]
            refine anyR_take (i := 19) (.slice (some ⟨a3, 0, none⟩) N e3) rfl (by kernel_rfl) (by kernel_rfl) (by kernel_rfl) (by kernel_rfl) (fun _ _ _ h => h) (by assumption) ⟨by rfl, ?_⟩ ?_
            · intro W hW
              go_simp
            try simp only [Act.put, List.setIfInBounds_toArray, List.set_cons_zero, List.set_cons_succ, List.getElem_toArray, List.getElem_cons_zero, List.getElem_cons_succ]
            refine anyR_take (i := 20) (.int .i64 j) rfl (by kernel_rfl) (by kernel_rfl) (by kernel_rfl) (by kernel_rfl) (fun _ _ _ h => h) (by assumption) ⟨by rfl, ?_⟩ ?_
            · intro W hW
              go_simp
            try simp only [Act.put, List.setIfInBounds_toArray, List.set_cons_zero, List.set_cons_succ, List.getElem_toArray, List.getElem_cons_zero, List.getElem_cons_succ]
            refine anyR_take (i := 21) (.pointer (some ⟨a3, j, none⟩)) rfl (by kernel_rfl) (by kernel_rfl) (by kernel_rfl) (by kernel_rfl) (fun _ _ _ h => h) (by assumption) ⟨by rfl, ?_⟩ ?_
            · intro W hW
              go_simp
            try simp only [Act.put, List.setIfInBounds_toArray, List.set_cons_zero, List.set_cons_succ, List.getElem_toArray, List.getElem_cons_zero, List.getElem_cons_succ]
            refine anyR_take (i := 22) (.int .i64 y) rfl (by kernel_rfl) (by kernel_rfl) (by kernel_rfl) (by kernel_rfl) (fun _ _ _ h => h) (by assumption) ⟨by rfl, ?_⟩ ?_
            · intro W hW
              go_simp
            try simp only [Act.put, List.setIfInBounds_toArray, List.set_cons_zero, List.set_cons_succ, List.getElem_toArray, List.getElem_cons_zero, List.getElem_cons_succ]
            refine anyR_take (i := 23) (.slice (some ⟨g4, 0, none⟩) N c4) rfl (by kernel_rfl) (by kernel_rfl) (by kernel_rfl) (by kernel_rfl) (fun _ _ _ h => h) (by assumption) ⟨by rfl, ?_⟩ ?_
            · intro W hW
              go_simp
            try simp only [Act.put, List.setIfInBounds_toArray, List.set_cons_zero, List.set_cons_succ, List.getElem_toArray, List.getElem_cons_zero, List.getElem_cons_succ]
            refine anyR_take (i := 24) (.int .i64 j) rfl (by kernel_rfl) (by kernel_rfl) (by kernel_rfl) (by kernel_rfl) (fun _ _ _ h => h) (by assumption) ⟨by rfl, ?_⟩ ?_
            · intro W hW
              go_simp
            try simp only [Act.put, List.setIfInBounds_toArray, List.set_cons_zero, List.set_cons_succ, List.getElem_toArray, List.getElem_cons_zero, List.getElem_cons_succ]
            refine anyR_take (i := 25) (.pointer (some ⟨g4, j, none⟩)) rfl (by kernel_rfl) (by kernel_rfl) (by kernel_rfl) (by kernel_rfl) (fun _ _ _ h => h) (by assumption) ⟨by rfl, ?_⟩ ?_
            · intro W hW
              go_simp
            try simp only [Act.put, List.setIfInBounds_toArray, List.set_cons_zero, List.set_cons_succ, List.getElem_toArray, List.getElem_cons_zero, List.getElem_cons_succ]
            refine anyR_take (i := 26) (.slice (some ⟨a4, 0, none⟩) N e4) rfl (by kernel_rfl) (by kernel_rfl) (by kernel_rfl) (by kernel_rfl) (fun _ _ _ h => h) (by assumption) ⟨by rfl, ?_⟩ ?_
            · intro W hW
              go_simp
            try simp only [Act.put, List.setIfInBounds_toArray, List.set_cons_zero, List.set_cons_succ, List.getElem_toArray, List.getElem_cons_zero, List.getElem_cons_succ]
            refine anyR_take (i := 27) (.int .i64 i) rfl (by kernel_rfl) (by kernel_rfl) (by kernel_rfl) (by kernel_rfl) (fun _ _ _ h => h) (by assumption) ⟨by rfl, ?_⟩ ?_
            · intro W hW
              go_simp
            try simp only [Act.put, List.setIfInBounds_toArray, List.set_cons_zero, List.set_cons_succ, List.getElem_toArray, List.getElem_cons_zero, List.getElem_cons_succ]
            refine anyR_take (i := 28) (.pointer (some ⟨a4, i, none⟩)) rfl (by kernel_rfl) (by kernel_rfl) (by kernel_rfl) (by kernel_rfl) (fun _ _ _ h => h) (by assumption) ⟨by rfl, ?_⟩ ?_
            · intro W hW
              go_simp
            try simp only [Act.put, List.setIfInBounds_toArray, List.set_cons_zero, List.set_cons_succ, List.getElem_toArray, List.getElem_cons_zero, List.getElem_cons_succ]
            refine anyR_take (i := 29) (.int .i64 y) rfl (by kernel_rfl) (by kernel_rfl) (by kernel_rfl) (by kernel_rfl) (fun _ _ _ h => h) (by assumption) ⟨by rfl, ?_⟩ ?_
            · intro W hW
              go_simp
            try simp only [Act.put, List.setIfInBounds_toArray, List.set_cons_zero, List.set_cons_succ, List.getElem_toArray, List.getElem_cons_zero, List.getElem_cons_succ]
            refine anyR_take (i := 30) (.bool false) rfl (by kernel_rfl) (by kernel_rfl) (by kernel_rfl) (by kernel_rfl) (fun _ _ _ h => h) (by assumption) ⟨by rfl, ?_⟩ ?_
            · intro W hW
              go_simp
            try simp only [Act.put, List.setIfInBounds_toArray, List.set_cons_zero, List.set_cons_succ, List.getElem_toArray, List.getElem_cons_zero, List.getElem_cons_succ]
            refine anyR_take (i := 31) (.bool false) rfl (by kernel_rfl) (by kernel_rfl) (by kernel_rfl) (by kernel_rfl) (fun _ _ _ h => h) (by assumption) ⟨by rfl, ?_⟩ ?_
            · intro W hW
              go_simp
            try simp only [Act.put, List.setIfInBounds_toArray, List.set_cons_zero, List.set_cons_succ, List.getElem_toArray, List.getElem_cons_zero, List.getElem_cons_succ]
            refine anyR_done (by kernel_rfl) ?_ _
            refine NoPanic.normal ?_
            clear hS
            clear u1 x1 u2 x2 u3 x3 u4 x4
            go_wp2_with fail
            go_roundw
            case rel => exact ⟨j + 1, by omega, by go_num, bel_trans BY.out ⟨rfl, rfl, rfl, Nat.le_refl _, fun _ _ => rfl⟩⟩
            case measure => simp [intOf]; omega
          · obtain rfl : N = j := by omega
            have d1 := decide_eq_false (show ¬ (N : Int) < (N : Int) by omega)
            go_wp2_with fail
            go_roundw
            case rel => exact ⟨i + 1, by omega, by go_num, BY.out⟩
            case measure => simp [intOf]; omega
      · obtain rfl : N = i := by omega
        have d0 := decide_eq_false (show ¬ (N : Int) < (N : Int) by omega)
        have C7 := Lib.hid (C6.out.below BX.out)
        have D7 := Lib.hid (D6.out.below BX.out)
        have V7 := Lib.hid (V6.out.below BX.out)
        have U7 := Lib.hid (U6.out.below BX.out)
        have B7 := Lib.hid (bel_trans B6.out BX.out)
        have y0 := C7.out.cell 0 rfl
        have y1 := C7.out.cell 1 rfl
        clear C6 D6 V6 U6 B6 N1 N2 N3 N4 BX
        go_wp2_with fail
        refine (SW.out _ V7.out).mono ?_
        rintro e w8 ⟨AZ, cZ, rfl, oZ, b8⟩
        have D8 := Lib.hid (D7.out.below b8)
        have U8 := Lib.hid (U7.out.below b8)
        have B8 := Lib.hid (bel_trans B7.out b8)
        have OZ := Lib.hid oZ
        clear y0 y1 b8 oZ
        have y0 := D8.out.cell 0 rfl
        have y1 := D8.out.cell 1 rfl
        go_wp2_with fail
        refine (SW'.out _ U8.out).mono ?_
        rintro e w9 ⟨AL, cL, rfl, oL, b9⟩
        have B9 := Lib.hid (bel_trans B8.out b9)
        have OZ' := Lib.hid (OZ.out.below b9)
        have OL := Lib.hid oL
        clear y0 y1 b9 oL OZ
        have LZ := Lib.hid (zr_len (wnL N S))
        have LL := Lib.hid (zr_len (wnL N fun a b => S b a))
        have lz0 : 0 < (zr (wnL N S)).length := by rw [zr_len]; exact W1.out
        have ll0 : 0 < (zr (wnL N fun a b => S b a)).length := by rw [zr_len]; exact W2.out
        have HAS := Lib.hid (fun (hn : 1 < N) (hl : (zr (wnL N S)).length ≤ 1) (z : Int) (hz : (zr (wnL N S))[0]? = some z) => (show ((zr (wnL N fun a b => S b a)).any (· == z)) = false from by
          rw [zr_len] at hl
          obtain ⟨x, hx, rfl⟩ := zr_at' hz
          have := WR.out hn hl x (List.mem_of_getElem? hx)
          rw [Bool.eq_false_iff]
          intro ha
          obtain ⟨q, hq, he⟩ := List.any_eq_true.1 ha
          obtain ⟨y, hy, rfl⟩ := List.mem_map.1 hq
          have he2 : (y : Int) = (x : Int) := by simpa using he
          have : y = x := by omega
          subst this
          exact absurd hy (by assumption)))
        obtain ⟨Z, hZ⟩ : ∃ z, zr (wnL N S) = z := ⟨_, rfl⟩
        obtain ⟨L, hL⟩ : ∃ z, (zr (wnL N fun a b => S b a)) = z := ⟨_, rfl⟩
        rw [hZ] at lz0 HAS OZ'
        rw [hL] at ll0 HAS OL
        rw [hZ, hL]
        have zs0 : (((Z.length : Nat) : Int) == 0) = false := by show decide _ = false; exact decide_eq_false (by omega)
        have ls0 : (((L.length : Nat) : Int) == 0) = false := by show decide _ = false; exact decide_eq_false (by omega)
        have HZ := Lib.hid hZ
        have z64 := OZ'.out.ints.short
        have l64 := OL.out.ints.short
        clear LZ LL hZ hL W1 W2 WR
        by_cases hn1 : N = 1
        · have e1 : ((N : Int) == 1) = true := by show decide _ = true; exact decide_eq_true (by omega)
          clear hn1
          go_wp2_with fail
          go_ret
          exact ⟨rfl, B9.out⟩
        · have e1 : ((N : Int) == 1) = false := by show decide _ = false; exact decide_eq_false (by omega)
          by_cases hl1 : 1 < Z.length
          · have e2 := decide_eq_true (show (1 : Int) < ((Z.length : Nat) : Int) by omega)
            clear hn1 hl1
            go_wp2_with fail
            go_ret
            exact ⟨rfl, B9.out⟩
          · have e2 := decide_eq_false (show ¬ (1 : Int) < ((Z.length : Nat) : Int) by omega)
            obtain ⟨bz, oz, z, rfl, _, cz, _, _, hz⟩ := OZ'.out.ints.at (j := 0) lz0
            rw [Nat.add_zero] at cz
            have HH := Lib.hid (HAS.out (by omega) (by omega) z hz.out)
            have zp : (0 : Int) < ((Z.length : Nat) : Int) := by omega
            clear hz hn1 hl1
            go_wp2_with fail
            refine (r8Has_any AL L.length cL L z w9 OL.out.ints).mono ?_
            rintro e wE ⟨rfl, rfl⟩
            rw [HH.out]
            go_wp2_with fail
            go_ret
            exact ⟨rfl, B9.out⟩
end Go.Proofs.Ytikcbconfinibaa
