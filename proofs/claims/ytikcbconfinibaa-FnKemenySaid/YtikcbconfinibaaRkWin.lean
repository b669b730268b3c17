/- Pairs, strengths and winners, as the program tells them. -/
import Derived.Test.YtikcbconfinibaaRkV
import Derived.Test.YtikcbconfinibaaRkStr
import Derived.Test.YtikcbconfinibaaSkip
namespace Go.Proofs.Ytikcbconfinibaa
set_option linter.unusedVariables false
set_option linter.unusedSimpArgs false
set_option maxRecDepth 100000
open Go.RowKit
def ToldF (n : Nat) (M : Nat → Nat → Int) (w : World) (e : Ending) (w' : World) : Prop := ∃ g c vs, e = .returned (.tuple #[.slice (some ⟨g, 0, none⟩) n c, .bool true]) ∧ OwnM w' w.heap.size (some ⟨g, 0, none⟩) n c vs (matF n M) ∧ Below w.heap.size w w'
theorem countPairs_ok (n : Nat) (rs : List (List Nat)) (ws : List Int) (ok : PrOk n rs ws) (RA : Option Addr) (rc : Nat) (WA : Option Addr) (wc : Nat) (w : World) (h : PrV w RA rc WA wc rs ws) :
    Calls Try.prog 10 #[.agg #[.slice RA rs.length rc, .slice WA rs.length wc]] w (ToldF n (prs (rs.zip ws)) w) := by
  have ba := bel_alloc w (.cells #[.slice RA rs.length rc, .slice WA rs.length wc] 27)
  have C0 := Cs.new w [.slice RA rs.length rc, .slice WA rs.length wc] 27
  obtain ⟨w0, hw0⟩ : ∃ x, w.alloc (.cells #[.slice RA rs.length rc, .slice WA rs.length wc] 27) = x := ⟨_, rfl⟩
  rw [hw0] at ba C0
  have y0 := C0.cell 0 rfl
  have y1 := C0.cell 1 rfl
  have H := Lib.hid (h.below ba)
  have HC := Lib.hid C0
  have BA := Lib.hid ba
  have OK := Lib.hid ok
  clear h C0 ba ok
  go_enter Try.func10, Try.ntmps10
  go_wp2_with fail
  clear hw0
  refine (validProfile_ok n rs ws OK.out RA rc WA wc _ H.out).mono ?_
  rintro e w1 ⟨rfl, b1⟩
  have H1 := Lib.hid (H.out.below b1)
  have HC1 := Lib.hid (HC.out.below b1)
  have B1 := Lib.hid (bel_trans BA.out b1)
  clear b1 y0 y1 H HC BA
  have y0 := HC1.out.cell 0 rfl
  have y1 := HC1.out.cell 1 rfl
  go_wp2_with fail
  refine (pairs_ok n rs ws OK.out RA rc WA wc _ H1.out).mono ?_
  rintro e w2 ⟨g, c, vs, rfl, o2, b2⟩
  have O2 := Lib.hid (o2.mono (b2 := w.heap.size) B1.out.size)
  have B2 := Lib.hid (bel_trans B1.out b2)
  clear o2 b2
  go_wp2_with fail
  exact bodyPost_ret (v := .tuple #[.slice (some ⟨g, 0, none⟩) n c, .bool true]) (by simp [results, Try.results10, go_sem]) rfl ⟨g, c, vs, rfl, O2.out, B2.out⟩
theorem pathStrengths_ok (n : Nat) (rs : List (List Nat)) (ws : List Int) (ok : PrOk n rs ws) (RA : Option Addr) (rc : Nat) (WA : Option Addr) (wc : Nat) (w : World) (h : PrV w RA rc WA wc rs ws) :
    Calls Try.prog 11 #[.agg #[.slice RA rs.length rc, .slice WA rs.length wc]] w (ToldF n (strg n (prs (rs.zip ws))) w) := by
  have ba := bel_alloc w (.cells #[.slice RA rs.length rc, .slice WA rs.length wc] 27)
  have C0 := Cs.new w [.slice RA rs.length rc, .slice WA rs.length wc] 27
  obtain ⟨w0, hw0⟩ : ∃ x, w.alloc (.cells #[.slice RA rs.length rc, .slice WA rs.length wc] 27) = x := ⟨_, rfl⟩
  rw [hw0] at ba C0
  have y0 := C0.cell 0 rfl
  have y1 := C0.cell 1 rfl
  have H := Lib.hid (h.below ba)
  have HC := Lib.hid C0
  have BA := Lib.hid ba
  have OK := Lib.hid ok
  clear h C0 ba ok
  go_enter Try.func11, Try.ntmps11
  go_wp2_with fail
  clear hw0
  refine (validProfile_ok n rs ws OK.out RA rc WA wc _ H.out).mono ?_
  rintro e w1 ⟨rfl, b1⟩
  have H1 := Lib.hid (H.out.below b1)
  have HC1 := Lib.hid (HC.out.below b1)
  have B1 := Lib.hid (bel_trans BA.out b1)
  clear b1 y0 y1 H HC BA
  have y0 := HC1.out.cell 0 rfl
  have y1 := HC1.out.cell 1 rfl
  go_wp2_with fail
  refine (strengths_ok n rs ws OK.out RA rc WA wc _ H1.out).mono ?_
  rintro e w2 ⟨g, c, vs, rfl, o2, b2⟩
  have O2 := Lib.hid (o2.mono (b2 := w.heap.size) B1.out.size)
  have B2 := Lib.hid (bel_trans B1.out b2)
  clear o2 b2
  go_wp2_with fail
  exact bodyPost_ret (v := .tuple #[.slice (some ⟨g, 0, none⟩) n c, .bool true]) (by simp [results, Try.results11, go_sem]) rfl ⟨g, c, vs, rfl, O2.out, B2.out⟩
def wnZ (n : Nat) (S : Nat → Nat → Int) (i : Nat) : List Int := zr ((List.range i).filter (wins n S))
def winT (S : Nat → Nat → Int) (i k : Nat) : Bool := (List.range k).all fun j => decide (S j i ≤ S i j)
theorem winT_next (S : Nat → Nat → Int) (i k : Nat) : winT S i (k + 1) = (winT S i k && decide (S k i ≤ S i k)) := by simp [winT, List.range_succ]
theorem wnZ_next (n : Nat) (S : Nat → Nat → Int) (i : Nat) : wnZ n S (i + 1) = wnZ n S i ++ if wins n S i then [(i : Int)] else [] := by
  unfold wnZ zr
  rw [List.range_succ, List.filter_append, List.map_append]
  by_cases h : wins n S i = true <;> simp [h]
theorem wnZ_len (n : Nat) (S : Nat → Nat → Int) (i : Nat) : (wnZ n S i).length ≤ i := by
  unfold wnZ
  rw [zr_len]
  exact Nat.le_trans (List.length_filter_le _ _) (by simp)
def ToldW (zs : List Int) (w : World) (e : Ending) (w' : World) : Prop := ∃ A c, e = .returned (.tuple #[.slice A zs.length c, .bool true]) ∧ OwnI w' w.heap.size A zs.length c zs ∧ Below w.heap.size w w'
set_option maxHeartbeats 2000000 in
theorem schulze_ok (n : Nat) (rs : List (List Nat)) (ws : List Int) (ok : PrOk n rs ws) (RA : Option Addr) (rc : Nat) (WA : Option Addr) (wc : Nat) (w : World) (h : PrV w RA rc WA wc rs ws) :
    Calls Try.prog 13 #[.agg #[.slice RA rs.length rc, .slice WA rs.length wc]] w (ToldW (zr (wnL n (strg n (prs (rs.zip ws))))) w) := by
  have n6 := ok.n6
  have n1 := ok.n1
  have ba := bel_alloc w (.cells #[.slice RA rs.length rc, .slice WA rs.length wc] 27)
  have C0 := Cs.new w [.slice RA rs.length rc, .slice WA rs.length wc] 27
  obtain ⟨w0, hw0⟩ : ∃ x, w.alloc (.cells #[.slice RA rs.length rc, .slice WA rs.length wc] 27) = x := ⟨_, rfl⟩
  rw [hw0] at ba C0
  have y0 := C0.cell 0 rfl
  have y1 := C0.cell 1 rfl
  have H := Lib.hid (h.below ba)
  have HC := Lib.hid C0
  have BA := Lib.hid ba
  have OK := Lib.hid ok
  clear h C0 ba ok
  go_enter Try.func13, Try.ntmps13
  go_wp2_with fail
  clear hw0
  refine (validProfile_ok n rs ws OK.out RA rc WA wc _ H.out).mono ?_
  rintro e w1 ⟨rfl, b1⟩
  have bz := bel_trans b1 (bel_alloc w1 (.cells #[] 2))
  have H1 := Lib.hid (H.out.below bz)
  have HC1 := Lib.hid (HC.out.below bz)
  have B1 := Lib.hid (bel_trans BA.out bz)
  have OE := Lib.hid (ownI_lit w1)
  have sz1 : (w1.alloc (.cells #[] 2)).heap.size = w1.heap.size + 1 := by simp
  have zw := B1.out.size
  have bw1 : w.heap.size ≤ w1.heap.size := by have := BA.out.size; have := b1.size; omega
  clear b1 bz y0 y1 H HC BA
  have y0 := HC1.out.cell 0 rfl
  have y1 := HC1.out.cell 1 rfl
  go_wp2_with fail
  refine (strengths_ok n rs ws OK.out RA rc WA wc _ H1.out).mono ?_
  rintro e w2 ⟨g, c, vs, rfl, oS, b2⟩
  have z2 := b2.size
  rw [sz1] at z2
  have W2 := Lib.hid (OE.out.below b2)
  have B2 := Lib.hid (bel_trans B1.out b2)
  have M2 := Lib.hid (by rw [sz1] at oS; exact oS)
  obtain ⟨S, hS⟩ : ∃ S, strg n (prs (rs.zip ws)) = S := ⟨_, rfl⟩
  rw [hS] at M2
  have HS := Lib.hid hS
  have VB := Lib.hid (fun v hv g' hg' => M2.out.blocks v hv g' hg')
  clear oS b2 y0 y1 hS OE B1 H1 HC1
  go_wp2_with fail
  go_loopw [4, 17] (fun s t wr => ∃ (i : Nat) (A : Option Addr) (c' : Nat), i ≤ n ∧ s = .slice A (wnZ n S i).length c' ∧ t = .int .i64 i ∧ OwnI wr w1.heap.size A (wnZ n S i).length c' (wnZ n S i) ∧ (∀ g', (Value.slice A (wnZ n S i).length c').ownBlock = some g' → g' = w1.heap.size ∨ w2.heap.size ≤ g') ∧ OwnM wr (w1.heap.size + 1) (some ⟨g, 0, none⟩) n c vs (matF n S) ∧ Below w.heap.size w wr ∧ w2.heap.size ≤ wr.heap.size) (fun _ t _ => n - (intOf t).toNat)
  case atStart => exact ⟨0, _, 0, Nat.zero_le _, rfl, rfl, W2.out, fun g' h => .inl (by simp [Value.ownBlock] at h; exact h.symm), M2.out, B2.out, Nat.le_refl _⟩
  case round =>
    obtain ⟨i, A, c', hi, rfl, rfl, hO, hN, hM, hB, hz⟩ := hrel
    rename World => wo
    have O3 := Lib.hid hO
    have N3 := Lib.hid hN
    have M3 := Lib.hid hM
    have B3 := Lib.hid hB
    clear hO hN hM hB W2 M2 B2
    by_cases hlt : i < n
    · have d0 := decide_eq_true (show (i : Int) < (n : Int) by omega)
      go_wp2_with fail
      go_loopw [7, 22] (fun s t wq => ∃ k : Nat, k ≤ n ∧ s = .bool (winT S i k) ∧ t = .int .i64 k ∧ Below wo.heap.size wo wq) (fun _ t _ => n - (intOf t).toNat)
      case atStart => exact ⟨0, Nat.zero_le _, rfl, rfl, Below.refl _ _⟩
      case round =>
        obtain ⟨k, hk, rfl, rfl, hB⟩ := hrel
        have B4 := Lib.hid hB
        clear hB
        by_cases hlk : k < n
        · have d1 := decide_eq_true (show (k : Int) < (n : Int) by omega)
          obtain ⟨gi, ci, RI⟩ := (M3.out.below B4.out).rowAt hlt
          obtain ⟨gk, ck, RK⟩ := (M3.out.below B4.out).rowAt hlk
          have c1 := RI.cell
          have c2 := RI.at' k hlk
          have c3 := RK.cell
          have c4 := RK.at' i hlt
          have i0 : (0 : Int) ≤ (i : Int) := by omega
          have i1 : (i : Int) < (n : Int) := by omega
          have k0 : (0 : Int) ≤ (k : Int) := by omega
          have k1 : (k : Int) < (n : Int) := by omega
          have NX := Lib.hid (winT_next S i k)
          obtain ⟨x, hx⟩ : ∃ x, S i k = x := ⟨_, rfl⟩
          obtain ⟨y, hy⟩ : ∃ x, S k i = x := ⟨_, rfl⟩
          rw [hx] at c2 NX
          rw [hy] at c4 NX
          clear hx hy RI RK
          cases hw : winT S i k
          · have EQ := Lib.hid (show winT S i (k + 1) = false from by rw [NX.out, hw]; rfl)
            clear hw
            go_wp2_with fail
            refine wp_region_noPanic ?_
            refine wp_region_R (inFirst (fun W => True) 19) (by kernel_rfl) ?_
            have hS := trivial
            refine anyR_take (i := 0) (.bool false) rfl (by kernel_rfl) (by kernel_rfl) (by kernel_rfl) (by kernel_rfl) (fun _ _ _ h => h) (by assumption) ⟨by rfl, ?_⟩ ?_
            · intro W hW
              go_simp
            try simp only [Act.put, List.setIfInBounds_toArray, List.set_cons_zero, List.set_cons_succ, List.getElem_toArray, List.getElem_cons_zero, List.getElem_cons_succ]
            refine anyR_take (i := 1) (.bool false) rfl (by kernel_rfl) (by kernel_rfl) (by kernel_rfl) (by kernel_rfl) (fun _ _ _ h => h) (by assumption) ⟨by rfl, ?_⟩ ?_
            · intro W hW
              go_simp
            try simp only [Act.put, List.setIfInBounds_toArray, List.set_cons_zero, List.set_cons_succ, List.getElem_toArray, List.getElem_cons_zero, List.getElem_cons_succ]
            refine anyR_skip (i := 2) rfl (by kernel_rfl) (by kernel_rfl) (by kernel_rfl) (by kernel_rfl) (fun _ _ _ h => h) (by assumption) (by rfl) ?_
            try simp only [Act.put, List.setIfInBounds_toArray, List.set_cons_zero, List.set_cons_succ, List.getElem_toArray, List.getElem_cons_zero, List.getElem_cons_succ]
            refine anyR_skip (i := 3) rfl (by kernel_rfl) (by kernel_rfl) (by kernel_rfl) (by kernel_rfl) (fun _ _ _ h => h) (by assumption) (by rfl) ?_
            try simp only [Act.put, List.setIfInBounds_toArray, List.set_cons_zero, List.set_cons_succ, List.getElem_toArray, List.getElem_cons_zero, List.getElem_cons_succ]
            refine anyR_skip (i := 4) rfl (by kernel_rfl) (by kernel_rfl) (by kernel_rfl) (by kernel_rfl) (fun _ _ _ h => h) (by assumption) (by rfl) ?_
            try simp only [Act.put, List.setIfInBounds_toArray, List.set_cons_zero, List.set_cons_succ, List.getElem_toArray, List.getElem_cons_zero, List.getElem_cons_succ]
            refine anyR_skip (i := 5) rfl (by kernel_rfl) (by kernel_rfl) (by kernel_rfl) (by kernel_rfl) (fun _ _ _ h => h) (by assumption) (by rfl) ?_
            try simp only [Act.put, List.setIfInBounds_toArray, List.set_cons_zero, List.set_cons_succ, List.getElem_toArray, List.getElem_cons_zero, List.getElem_cons_succ]
            refine anyR_skip (i := 6) rfl (by kernel_rfl) (by kernel_rfl) (by kernel_rfl) (by kernel_rfl) (fun _ _ _ h => h) (by assumption) (by rfl) ?_
            try simp only [Act.put, List.setIfInBounds_toArray, List.set_cons_zero, List.set_cons_succ, List.getElem_toArray, List.getElem_cons_zero, List.getElem_cons_succ]
            refine anyR_skip (i := 7) rfl (by kernel_rfl) (by kernel_rfl) (by kernel_rfl) (by kernel_rfl) (fun _ _ _ h => h) (by assumption) (by rfl) ?_
            try simp only [Act.put, List.setIfInBounds_toArray, List.set_cons_zero, List.set_cons_succ, List.getElem_toArray, List.getElem_cons_zero, List.getElem_cons_succ]
            refine anyR_skip (i := 8) rfl (by kernel_rfl) (by kernel_rfl) (by kernel_rfl) (by kernel_rfl) (fun _ _ _ h => h) (by assumption) (by rfl) ?_
            try simp only [Act.put, List.setIfInBounds_toArray, List.set_cons_zero, List.set_cons_succ, List.getElem_toArray, List.getElem_cons_zero, List.getElem_cons_succ]
            refine anyR_skip (i := 9) rfl (by kernel_rfl) (by kernel_rfl) (by kernel_rfl) (by kernel_rfl) (fun _ _ _ h => h) (by assumption) (by rfl) ?_
            try simp only [Act.put, List.setIfInBounds_toArray, List.set_cons_zero, List.set_cons_succ, List.getElem_toArray, List.getElem_cons_zero, List.getElem_cons_succ]
            refine anyR_skip (i := 10) rfl (by kernel_rfl) (by kernel_rfl) (by kernel_rfl) (by kernel_rfl) (fun _ _ _ h => h) (by assumption) (by rfl) ?_
            try simp only [Act.put, List.setIfInBounds_toArray, List.set_cons_zero, List.set_cons_succ, List.getElem_toArray, List.getElem_cons_zero, List.getElem_cons_succ]
            refine anyR_skip (i := 11) rfl (by kernel_rfl) (by kernel_rfl) (by kernel_rfl) (by kernel_rfl) (fun _ _ _ h => h) (by assumption) (by rfl) ?_
            try simp only [Act.put, List.setIfInBounds_toArray, List.set_cons_zero, List.set_cons_succ, List.getElem_toArray, List.getElem_cons_zero, List.getElem_cons_succ]
            refine anyR_skip (i := 12) rfl (by kernel_rfl) (by kernel_rfl) (by kernel_rfl) (by kernel_rfl) (fun _ _ _ h => h) (by assumption) (by rfl) ?_
            try simp only [Act.put, List.setIfInBounds_toArray, List.set_cons_zero, List.set_cons_succ, List.getElem_toArray, List.getElem_cons_zero, List.getElem_cons_succ]
            refine anyR_skip (i := 13) rfl (by kernel_rfl) (by kernel_rfl) (by kernel_rfl) (by kernel_rfl) (fun _ _ _ h => h) (by assumption) (by rfl) ?_
            try simp only [Act.put, List.setIfInBounds_toArray, List.set_cons_zero, List.set_cons_succ, List.getElem_toArray, List.getElem_cons_zero, List.getElem_cons_succ]
            refine anyR_skip (i := 14) rfl (by kernel_rfl) (by kernel_rfl) (by kernel_rfl) (by kernel_rfl) (fun _ _ _ h => h) (by assumption) (by rfl) ?_
            try simp only [Act.put, List.setIfInBounds_toArray, List.set_cons_zero, List.set_cons_succ, List.getElem_toArray, List.getElem_cons_zero, List.getElem_cons_succ]
            refine anyR_skip (i := 15) rfl (by kernel_rfl) (by kernel_rfl) (by kernel_rfl) (by kernel_rfl) (fun _ _ _ h => h) (by assumption) (by rfl) ?_
            try simp only [Act.put, List.setIfInBounds_toArray, List.set_cons_zero, List.set_cons_succ, List.getElem_toArray, List.getElem_cons_zero, List.getElem_cons_succ]
            refine anyR_skip (i := 16) rfl (by kernel_rfl) (by kernel_rfl) (by kernel_rfl) (by kernel_rfl) (fun _ _ _ h => h) (by assumption) (by rfl) ?_
            try simp only [Act.put, List.setIfInBounds_toArray, List.set_cons_zero, List.set_cons_succ, List.getElem_toArray, List.getElem_cons_zero, List.getElem_cons_succ]
            refine anyR_take (i := 17) (.bool false) rfl (by kernel_rfl) (by kernel_rfl) (by kernel_rfl) (by kernel_rfl) (fun _ _ _ h => h) (by assumption) ⟨by rfl, ?_⟩ ?_
            · intro W hW
              go_simp
            try simp only [Act.put, List.setIfInBounds_toArray, List.set_cons_zero, List.set_cons_succ, List.getElem_toArray, List.getElem_cons_zero, List.getElem_cons_succ]
            refine anyR_take (i := 18) (.bool false) rfl (by kernel_rfl) (by kernel_rfl) (by kernel_rfl) (by kernel_rfl) (fun _ _ _ h => h) (by assumption) ⟨by rfl, ?_⟩ ?_
            · intro W hW
              go_simp
            try simp only [Act.put, List.setIfInBounds_toArray, List.set_cons_zero, List.set_cons_succ, List.getElem_toArray, List.getElem_cons_zero, List.getElem_cons_succ]
            refine anyR_done (by kernel_rfl) ?_ _
            refine NoPanic.normal ?_
            clear hS
            go_wp2_with fail
            go_roundw
            case rel => exact ⟨k + 1, by omega, by rw [EQ.out], by go_num, bel_trans B4.out ⟨rfl, rfl, rfl, Nat.le_refl _, fun _ _ => rfl⟩⟩
            case measure => simp [intOf]; omega
          · have EQ := Lib.hid (show winT S i (k + 1) = decide (y ≤ x) from by rw [NX.out, hw]; rfl)
            clear hw
            by_cases hxy : y ≤ x
            · have dg := decide_eq_true hxy
              rw [dg] at EQ
              clear hxy
              go_wp2_with fail
              refine wp_region_noPanic ?_
              refine wp_region_R (inFirst (fun W => W.cell? ⟨g, i, none⟩ = some (.slice (some ⟨gi, 0, none⟩) n ci) ∧ W.cell? ⟨gi, k, none⟩ = some (.int .i64 x) ∧ W.cell? ⟨g, k, none⟩ = some (.slice (some ⟨gk, 0, none⟩) n ck) ∧ W.cell? ⟨gk, i, none⟩ = some (.int .i64 y)) 19) (by kernel_rfl) ?_
              have hS : wr.drew.cell? ⟨g, i, none⟩ = some (.slice (some ⟨gi, 0, none⟩) n ci) ∧ wr.drew.cell? ⟨gi, k, none⟩ = some (.int .i64 x) ∧ wr.drew.cell? ⟨g, k, none⟩ = some (.slice (some ⟨gk, 0, none⟩) n ck) ∧ wr.drew.cell? ⟨gk, i, none⟩ = some (.int .i64 y) := ⟨c1, c2, c3, c4⟩
              refine anyR_take (i := 0) (.bool true) rfl (by kernel_rfl) (by kernel_rfl) (by kernel_rfl) (by kernel_rfl) (fun _ _ _ h => h) (by assumption) ⟨by rfl, ?_⟩ ?_
              · intro W hW
                go_simp
              try simp only [Act.put, List.setIfInBounds_toArray, List.set_cons_zero, List.set_cons_succ, List.getElem_toArray, List.getElem_cons_zero, List.getElem_cons_succ]
              refine anyR_take (i := 1) (.bool true) rfl (by kernel_rfl) (by kernel_rfl) (by kernel_rfl) (by kernel_rfl) (fun _ _ _ h => h) (by assumption) ⟨by rfl, ?_⟩ ?_
              · intro W hW
                go_simp
              try simp only [Act.put, List.setIfInBounds_toArray, List.set_cons_zero, List.set_cons_succ, List.getElem_toArray, List.getElem_cons_zero, List.getElem_cons_succ]
              refine anyR_take (i := 2) (.slice (some ⟨g, 0, none⟩) n c) rfl (by kernel_rfl) (by kernel_rfl) (by kernel_rfl) (by kernel_rfl) (fun _ _ _ h => h) (by assumption) ⟨by rfl, ?_⟩ ?_
              · intro W hW
                go_simp
              try simp only [Act.put, List.setIfInBounds_toArray, List.set_cons_zero, List.set_cons_succ, List.getElem_toArray, List.getElem_cons_zero, List.getElem_cons_succ]
              refine anyR_take (i := 3) (.int .i64 i) rfl (by kernel_rfl) (by kernel_rfl) (by kernel_rfl) (by kernel_rfl) (fun _ _ _ h => h) (by assumption) ⟨by rfl, ?_⟩ ?_
              · intro W hW
                go_simp
              try simp only [Act.put, List.setIfInBounds_toArray, List.set_cons_zero, List.set_cons_succ, List.getElem_toArray, List.getElem_cons_zero, List.getElem_cons_succ]
              refine anyR_take (i := 4) (.pointer (some ⟨g, i, none⟩)) rfl (by kernel_rfl) (by kernel_rfl) (by kernel_rfl) (by kernel_rfl) (fun _ _ _ h => h) (by assumption) ⟨by rfl, ?_⟩ ?_
              · intro W hW
                go_simp
              try simp only [Act.put, List.setIfInBounds_toArray, List.set_cons_zero, List.set_cons_succ, List.getElem_toArray, List.getElem_cons_zero, List.getElem_cons_succ]
              refine anyR_take (i := 5) (.slice (some ⟨gi, 0, none⟩) n ci) rfl (by kernel_rfl) (by kernel_rfl) (by kernel_rfl) (by kernel_rfl) (fun _ _ _ h => h) (by assumption) ⟨by rfl, ?_⟩ ?_
              · intro W hW
                go_simp
              try simp only [Act.put, List.setIfInBounds_toArray, List.set_cons_zero, List.set_cons_succ, List.getElem_toArray, List.getElem_cons_zero, List.getElem_cons_succ]
              refine anyR_take (i := 6) (.int .i64 k) rfl (by kernel_rfl) (by kernel_rfl) (by kernel_rfl) (by kernel_rfl) (fun _ _ _ h => h) (by assumption) ⟨by rfl, ?_⟩ ?_
              · intro W hW
                go_simp
              try simp only [Act.put, List.setIfInBounds_toArray, List.set_cons_zero, List.set_cons_succ, List.getElem_toArray, List.getElem_cons_zero, List.getElem_cons_succ]
              refine anyR_take (i := 7) (.pointer (some ⟨gi, k, none⟩)) rfl (by kernel_rfl) (by kernel_rfl) (by kernel_rfl) (by kernel_rfl) (fun _ _ _ h => h) (by assumption) ⟨by rfl, ?_⟩ ?_
              · intro W hW
                go_simp
              try simp only [Act.put, List.setIfInBounds_toArray, List.set_cons_zero, List.set_cons_succ, List.getElem_toArray, List.getElem_cons_zero, List.getElem_cons_succ]
              refine anyR_take (i := 8) (.int .i64 x) rfl (by kernel_rfl) (by kernel_rfl) (by kernel_rfl) (by kernel_rfl) (fun _ _ _ h => h) (by assumption) ⟨by rfl, ?_⟩ ?_
              · intro W hW
                go_simp
              try simp only [Act.put, List.setIfInBounds_toArray, List.set_cons_zero, List.set_cons_succ, List.getElem_toArray, List.getElem_cons_zero, List.getElem_cons_succ]
              refine anyR_take (i := 9) (.slice (some ⟨g, 0, none⟩) n c) rfl (by kernel_rfl) (by kernel_rfl) (by kernel_rfl) (by kernel_rfl) (fun _ _ _ h => h) (by assumption) ⟨by rfl, ?_⟩ ?_
              · intro W hW
                go_simp
              try simp only [Act.put, List.setIfInBounds_toArray, List.set_cons_zero, List.set_cons_succ, List.getElem_toArray, List.getElem_cons_zero, List.getElem_cons_succ]
              refine anyR_take (i := 10) (.int .i64 k) rfl (by kernel_rfl) (by kernel_rfl) (by kernel_rfl) (by kernel_rfl) (fun _ _ _ h => h) (by assumption) ⟨by rfl, ?_⟩ ?_
              · intro W hW
                go_simp
              try simp only [Act.put, List.setIfInBounds_toArray, List.set_cons_zero, List.set_cons_succ, List.getElem_toArray, List.getElem_cons_zero, List.getElem_cons_succ]
              refine anyR_take (i := 11) (.pointer (some ⟨g, k, none⟩)) rfl (by kernel_rfl) (by kernel_rfl) (by kernel_rfl) (by kernel_rfl) (fun _ _ _ h => h) (by assumption) ⟨by rfl, ?_⟩ ?_
              · intro W hW
                go_simp
              try simp only [Act.put, List.setIfInBounds_toArray, List.set_cons_zero, List.set_cons_succ, List.getElem_toArray, List.getElem_cons_zero, List.getElem_cons_succ]
              refine anyR_take (i := 12) (.slice (some ⟨gk, 0, none⟩) n ck) rfl (by kernel_rfl) (by kernel_rfl) (by kernel_rfl) (by kernel_rfl) (fun _ _ _ h => h) (by assumption) ⟨by rfl, ?_⟩ ?_
              · intro W hW
                go_simp
              try simp only [Act.put, List.setIfInBounds_toArray, List.set_cons_zero, List.set_cons_succ, List.getElem_toArray, List.getElem_cons_zero, List.getElem_cons_succ]
              refine anyR_take (i := 13) (.int .i64 i) rfl (by kernel_rfl) (by kernel_rfl) (by kernel_rfl) (by kernel_rfl) (fun _ _ _ h => h) (by assumption) ⟨by rfl, ?_⟩ ?_
              · intro W hW
                go_simp
              try simp only [Act.put, List.setIfInBounds_toArray, List.set_cons_zero, List.set_cons_succ, List.getElem_toArray, List.getElem_cons_zero, List.getElem_cons_succ]
              refine anyR_take (i := 14) (.pointer (some ⟨gk, i, none⟩)) rfl (by kernel_rfl) (by kernel_rfl) (by kernel_rfl) (by kernel_rfl) (fun _ _ _ h => h) (by assumption) ⟨by rfl, ?_⟩ ?_
              · intro W hW
                go_simp
              try simp only [Act.put, List.setIfInBounds_toArray, List.set_cons_zero, List.set_cons_succ, List.getElem_toArray, List.getElem_cons_zero, List.getElem_cons_succ]
              refine anyR_take (i := 15) (.int .i64 y) rfl (by kernel_rfl) (by kernel_rfl) (by kernel_rfl) (by kernel_rfl) (fun _ _ _ h => h) (by assumption) ⟨by rfl, ?_⟩ ?_
              · intro W hW
                go_simp
              try simp only [Act.put, List.setIfInBounds_toArray, List.set_cons_zero, List.set_cons_succ, List.getElem_toArray, List.getElem_cons_zero, List.getElem_cons_succ]
              refine anyR_take (i := 16) (.bool true) rfl (by kernel_rfl) (by kernel_rfl) (by kernel_rfl) (by kernel_rfl) (fun _ _ _ h => h) (by assumption) ⟨by rfl, ?_⟩ ?_
              · intro W hW
                go_simp
              try simp only [Act.put, List.setIfInBounds_toArray, List.set_cons_zero, List.set_cons_succ, List.getElem_toArray, List.getElem_cons_zero, List.getElem_cons_succ]
              refine anyR_take (i := 17) (.bool true) rfl (by kernel_rfl) (by kernel_rfl) (by kernel_rfl) (by kernel_rfl) (fun _ _ _ h => h) (by assumption) ⟨by rfl, ?_⟩ ?_
              · intro W hW
                go_simp
              try simp only [Act.put, List.setIfInBounds_toArray, List.set_cons_zero, List.set_cons_succ, List.getElem_toArray, List.getElem_cons_zero, List.getElem_cons_succ]
              refine anyR_take (i := 18) (.bool true) rfl (by kernel_rfl) (by kernel_rfl) (by kernel_rfl) (by kernel_rfl) (fun _ _ _ h => h) (by assumption) ⟨by rfl, ?_⟩ ?_
              · intro W hW
                go_simp
              try simp only [Act.put, List.setIfInBounds_toArray, List.set_cons_zero, List.set_cons_succ, List.getElem_toArray, List.getElem_cons_zero, List.getElem_cons_succ]
              refine anyR_done (by kernel_rfl) ?_ _
              refine NoPanic.normal ?_
              clear hS
              go_wp2_with fail
              go_roundw
              case rel => exact ⟨k + 1, by omega, by rw [EQ.out], by go_num, bel_trans B4.out ⟨rfl, rfl, rfl, Nat.le_refl _, fun _ _ => rfl⟩⟩
              case measure => simp [intOf]; omega
            · have dg := decide_eq_false hxy
              rw [dg] at EQ
              clear hxy
              go_wp2_with fail
              refine wp_region_noPanic ?_
              refine wp_region_R (inFirst (fun W => W.cell? ⟨g, i, none⟩ = some (.slice (some ⟨gi, 0, none⟩) n ci) ∧ W.cell? ⟨gi, k, none⟩ = some (.int .i64 x) ∧ W.cell? ⟨g, k, none⟩ = some (.slice (some ⟨gk, 0, none⟩) n ck) ∧ W.cell? ⟨gk, i, none⟩ = some (.int .i64 y)) 19) (by kernel_rfl) ?_
              have hS : wr.drew.cell? ⟨g, i, none⟩ = some (.slice (some ⟨gi, 0, none⟩) n ci) ∧ wr.drew.cell? ⟨gi, k, none⟩ = some (.int .i64 x) ∧ wr.drew.cell? ⟨g, k, none⟩ = some (.slice (some ⟨gk, 0, none⟩) n ck) ∧ wr.drew.cell? ⟨gk, i, none⟩ = some (.int .i64 y) := ⟨c1, c2, c3, c4⟩
              refine anyR_take (i := 0) (.bool true) rfl (by kernel_rfl) (by kernel_rfl) (by kernel_rfl) (by kernel_rfl) (fun _ _ _ h => h) (by assumption) ⟨by rfl, ?_⟩ ?_
              · intro W hW
                go_simp
              try simp only [Act.put, List.setIfInBounds_toArray, List.set_cons_zero, List.set_cons_succ, List.getElem_toArray, List.getElem_cons_zero, List.getElem_cons_succ]
              refine anyR_take (i := 1) (.bool true) rfl (by kernel_rfl) (by kernel_rfl) (by kernel_rfl) (by kernel_rfl) (fun _ _ _ h => h) (by assumption) ⟨by rfl, ?_⟩ ?_
              · intro W hW
                go_simp
              try simp only [Act.put, List.setIfInBounds_toArray, List.set_cons_zero, List.set_cons_succ, List.getElem_toArray, List.getElem_cons_zero, List.getElem_cons_succ]
              refine anyR_take (i := 2) (.slice (some ⟨g, 0, none⟩) n c) rfl (by kernel_rfl) (by kernel_rfl) (by kernel_rfl) (by kernel_rfl) (fun _ _ _ h => h) (by assumption) ⟨by rfl, ?_⟩ ?_
              · intro W hW
                go_simp
              try simp only [Act.put, List.setIfInBounds_toArray, List.set_cons_zero, List.set_cons_succ, List.getElem_toArray, List.getElem_cons_zero, List.getElem_cons_succ]
              refine anyR_take (i := 3) (.int .i64 i) rfl (by kernel_rfl) (by kernel_rfl) (by kernel_rfl) (by kernel_rfl) (fun _ _ _ h => h) (by assumption) ⟨by rfl, ?_⟩ ?_
              · intro W hW
                go_simp
              try simp only [Act.put, List.setIfInBounds_toArray, List.set_cons_zero, List.set_cons_succ, List.getElem_toArray, List.getElem_cons_zero, List.getElem_cons_succ]
              refine anyR_take (i := 4) (.pointer (some ⟨g, i, none⟩)) rfl (by kernel_rfl) (by kernel_rfl) (by kernel_rfl) (by kernel_rfl) (fun _ _ _ h => h) (by assumption) ⟨by rfl, ?_⟩ ?_
              · intro W hW
                go_simp
              try simp only [Act.put, List.setIfInBounds_toArray, List.set_cons_zero, List.set_cons_succ, List.getElem_toArray, List.getElem_cons_zero, List.getElem_cons_succ]
              refine anyR_take (i := 5) (.slice (some ⟨gi, 0, none⟩) n ci) rfl (by kernel_rfl) (by kernel_rfl) (by kernel_rfl) (by kernel_rfl) (fun _ _ _ h => h) (by assumption) ⟨by rfl, ?_⟩ ?_
              · intro W hW
                go_simp
              try simp only [Act.put, List.setIfInBounds_toArray, List.set_cons_zero, List.set_cons_succ, List.getElem_toArray, List.getElem_cons_zero, List.getElem_cons_succ]
              refine anyR_take (i := 6) (.int .i64 k) rfl (by kernel_rfl) (by kernel_rfl) (by kernel_rfl) (by kernel_rfl) (fun _ _ _ h => h) (by assumption) ⟨by rfl, ?_⟩ ?_
              · intro W hW
                go_simp
              try simp only [Act.put, List.setIfInBounds_toArray, List.set_cons_zero, List.set_cons_succ, List.getElem_toArray, List.getElem_cons_zero, List.getElem_cons_succ]
              refine anyR_take (i := 7) (.pointer (some ⟨gi, k, none⟩)) rfl (by kernel_rfl) (by kernel_rfl) (by kernel_rfl) (by kernel_rfl) (fun _ _ _ h => h) (by assumption) ⟨by rfl, ?_⟩ ?_
              · intro W hW
                go_simp
              try simp only [Act.put, List.setIfInBounds_toArray, List.set_cons_zero, List.set_cons_succ, List.getElem_toArray, List.getElem_cons_zero, List.getElem_cons_succ]
              refine anyR_take (i := 8) (.int .i64 x) rfl (by kernel_rfl) (by kernel_rfl) (by kernel_rfl) (by kernel_rfl) (fun _ _ _ h => h) (by assumption) ⟨by rfl, ?_⟩ ?_
              · intro W hW
                go_simp
              try simp only [Act.put, List.setIfInBounds_toArray, List.set_cons_zero, List.set_cons_succ, List.getElem_toArray, List.getElem_cons_zero, List.getElem_cons_succ]
              refine anyR_take (i := 9) (.slice (some ⟨g, 0, none⟩) n c) rfl (by kernel_rfl) (by kernel_rfl) (by kernel_rfl) (by kernel_rfl) (fun _ _ _ h => h) (by assumption) ⟨by rfl, ?_⟩ ?_
              · intro W hW
                go_simp
              try simp only [Act.put, List.setIfInBounds_toArray, List.set_cons_zero, List.set_cons_succ, List.getElem_toArray, List.getElem_cons_zero, List.getElem_cons_succ]
              refine anyR_take (i := 10) (.int .i64 k) rfl (by kernel_rfl) (by kernel_rfl) (by kernel_rfl) (by kernel_rfl) (fun _ _ _ h => h) (by assumption) ⟨by rfl, ?_⟩ ?_
              · intro W hW
                go_simp
              try simp only [Act.put, List.setIfInBounds_toArray, List.set_cons_zero, List.set_cons_succ, List.getElem_toArray, List.getElem_cons_zero, List.getElem_cons_succ]
              refine anyR_take (i := 11) (.pointer (some ⟨g, k, none⟩)) rfl (by kernel_rfl) (by kernel_rfl) (by kernel_rfl) (by kernel_rfl) (fun _ _ _ h => h) (by assumption) ⟨by rfl, ?_⟩ ?_
              · intro W hW
                go_simp
              try simp only [Act.put, List.setIfInBounds_toArray, List.set_cons_zero, List.set_cons_succ, List.getElem_toArray, List.getElem_cons_zero, List.getElem_cons_succ]
              refine anyR_take (i := 12) (.slice (some ⟨gk, 0, none⟩) n ck) rfl (by kernel_rfl) (by kernel_rfl) (by kernel_rfl) (by kernel_rfl) (fun _ _ _ h => h) (by assumption) ⟨by rfl, ?_⟩ ?_
              · intro W hW
                go_simp
              try simp only [Act.put, List.setIfInBounds_toArray, List.set_cons_zero, List.set_cons_succ, List.getElem_toArray, List.getElem_cons_zero, List.getElem_cons_succ]
              refine anyR_take (i := 13) (.int .i64 i) rfl (by kernel_rfl) (by kernel_rfl) (by kernel_rfl) (by kernel_rfl) (fun _ _ _ h => h) (by assumption) ⟨by rfl, ?_⟩ ?_
              · intro W hW
                go_simp
              try simp only [Act.put, List.setIfInBounds_toArray, List.set_cons_zero, List.set_cons_succ, List.getElem_toArray, List.getElem_cons_zero, List.getElem_cons_succ]
              refine anyR_take (i := 14) (.pointer (some ⟨gk, i, none⟩)) rfl (by kernel_rfl) (by kernel_rfl) (by kernel_rfl) (by kernel_rfl) (fun _ _ _ h => h) (by assumption) ⟨by rfl, ?_⟩ ?_
              · intro W hW
                go_simp
              try simp only [Act.put, List.setIfInBounds_toArray, List.set_cons_zero, List.set_cons_succ, List.getElem_toArray, List.getElem_cons_zero, List.getElem_cons_succ]
              refine anyR_take (i := 15) (.int .i64 y) rfl (by kernel_rfl) (by kernel_rfl) (by kernel_rfl) (by kernel_rfl) (fun _ _ _ h => h) (by assumption) ⟨by rfl, ?_⟩ ?_
              · intro W hW
                go_simp
              try simp only [Act.put, List.setIfInBounds_toArray, List.set_cons_zero, List.set_cons_succ, List.getElem_toArray, List.getElem_cons_zero, List.getElem_cons_succ]
              refine anyR_take (i := 16) (.bool false) rfl (by kernel_rfl) (by kernel_rfl) (by kernel_rfl) (by kernel_rfl) (fun _ _ _ h => h) (by assumption) ⟨by rfl, ?_⟩ ?_
              · intro W hW
                go_simp
              try simp only [Act.put, List.setIfInBounds_toArray, List.set_cons_zero, List.set_cons_succ, List.getElem_toArray, List.getElem_cons_zero, List.getElem_cons_succ]
              refine anyR_take (i := 17) (.bool false) rfl (by kernel_rfl) (by kernel_rfl) (by kernel_rfl) (by kernel_rfl) (fun _ _ _ h => h) (by assumption) ⟨by rfl, ?_⟩ ?_
              · intro W hW
                go_simp
              try simp only [Act.put, List.setIfInBounds_toArray, List.set_cons_zero, List.set_cons_succ, List.getElem_toArray, List.getElem_cons_zero, List.getElem_cons_succ]
              refine anyR_take (i := 18) (.bool false) rfl (by kernel_rfl) (by kernel_rfl) (by kernel_rfl) (by kernel_rfl) (fun _ _ _ h => h) (by assumption) ⟨by rfl, ?_⟩ ?_
              · intro W hW
                go_simp
              try simp only [Act.put, List.setIfInBounds_toArray, List.set_cons_zero, List.set_cons_succ, List.getElem_toArray, List.getElem_cons_zero, List.getElem_cons_succ]
              refine anyR_done (by kernel_rfl) ?_ _
              refine NoPanic.normal ?_
              clear hS
              go_wp2_with fail
              go_roundw
              case rel => exact ⟨k + 1, by omega, by rw [EQ.out], by go_num, bel_trans B4.out ⟨rfl, rfl, rfl, Nat.le_refl _, fun _ _ => rfl⟩⟩
              case measure => simp [intOf]; omega
        · obtain rfl : n = k := by omega
          have d1 := decide_eq_false (show ¬ (n : Int) < (n : Int) by omega)
          have NX := Lib.hid (wnZ_next n S i)
          have WL := wnZ_len n S i
          have O4 := Lib.hid (O3.out.below B4.out)
          have M4 := Lib.hid (M3.out.below B4.out)
          have B5 := Lib.hid (B3.out.trans (B4.out.mono (by have := B3.out.size; omega)))
          have zq := B4.out.size
          have hwi : winT S i n = wins n S i := rfl
          rw [hwi]
          clear hwi O3 M3 B3 B4
          cases hw : wins n S i
          · have EQ := Lib.hid (show wnZ n S (i + 1) = wnZ n S i from by rw [NX.out, hw]; simp)
            clear hw
            go_wp2_with fail
            go_roundw
            case rel => exact ⟨i + 1, A, c', by omega, by rw [EQ.out], by go_num, by rw [EQ.out]; exact O4.out, by rw [EQ.out]; exact N3.out, M4.out, B5.out, by omega⟩
            case measure => simp [intOf]; omega
          · have EQ := Lib.hid (show wnZ n S (i + 1) = wnZ n S i ++ [(i : Int)] from by rw [NX.out, hw]; simp)
            have EL := Lib.hid (show (wnZ n S (i + 1)).length = (wnZ n S i).length + 1 from by rw [EQ.out]; simp)
            have sz4 : w1.heap.size ≤ wr.heap.size := by omega
            have BK := Lib.hid (fun x hx => (show w.heap.size ≤ x from by have := (O4.out.block x hx).1; omega))
            clear hw
            go_wp2_with (at_builtin; refine app_int_at wr rfl _ _ rfl w1.heap.size A (wnZ n S i).length c' (wnZ n S i) rfl O4.out (i : Int) (by omega) (by omega) rfl (by omega) sz4 ?_; intro A7 c7 w7 p1 p2 p3; have P7 := Lib.hid p1; have G7 := Lib.hid p2; have N7 := Lib.hid p3; clear p1 p2 p3)
            have M7 := Lib.hid (M4.out.kept G7.out (own_ne M4.out.outer O4.out.1 (by decide)) (fun v hv => by
              cases hb : v.ownBlock with
              | none => exact .inl rfl
              | some r =>
                refine .inr fun e => ?_
                have h1 := VB.out v hv r hb
                have h2 := N3.out r e.symm
                omega))
            have B7 := Lib.hid (B5.out.grown G7.out (by omega) BK.out)
            have N8 := Lib.hid (fun g' (hg' : (Value.slice A7 ((wnZ n S i).length + 1) c7).ownBlock = some g') => (show g' = w1.heap.size ∨ w2.heap.size ≤ g' from by
              rcases N7.out with e | ⟨r, e, hr⟩
              · rw [e] at hg'; exact N3.out g' hg'
              · rw [e] at hg'; injection hg' with hg'; exact .inr (by omega)))
            have z7 := G7.out.size
            go_roundw
            case rel => exact ⟨i + 1, A7, c7, by omega, by rw [EL.out], by go_num, by rw [EL.out, EQ.out]; exact P7.out, by rw [EL.out]; exact N8.out, M7.out, B7.out, by omega⟩
            case measure => simp [intOf]; omega
    · obtain rfl : n = i := by omega
      have d0 := decide_eq_false (show ¬ (n : Int) < (n : Int) by omega)
      have OE := Lib.hid (show OwnI wo w.heap.size A (zr (wnL n (strg n (prs (rs.zip ws))))).length c' (zr (wnL n (strg n (prs (rs.zip ws))))) from by
        rw [HS.out]; exact O3.out.mono (by omega))
      have EZ := Lib.hid (show (wnZ n S n).length = (zr (wnL n (strg n (prs (rs.zip ws))))).length from by rw [HS.out]; rfl)
      go_wp2_with fail
      exact bodyPost_ret (v := .tuple #[.slice A (wnZ n S n).length c', .bool true]) (by simp [results, Try.results13, go_sem]) rfl ⟨A, c', by rw [EZ.out], OE.out, B3.out⟩
end Go.Proofs.Ytikcbconfinibaa
