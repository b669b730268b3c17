/- The strengths of paths, as the program finds them. -/
import Derived.Test.YtikcbconfinibaaRkPairs
namespace Go.Proofs.Ytikcbconfinibaa
set_option linter.unusedVariables false
set_option linter.unusedSimpArgs false
set_option maxRecDepth 100000
open Go.RowKit
/-- The rows below i. -/
def rowsF (i n : Nat) (M : Nat → Nat → Int) : List (List Int) := (List.range i).map fun a => rowF n (M a)
theorem rowsF_succ (i n : Nat) (M : Nat → Nat → Int) : rowsF (i + 1) n M = rowsF i n M ++ [rowF n (M i)] := by simp [rowsF, List.range_succ]
theorem rowsF_all (n : Nat) (M : Nat → Nat → Int) : rowsF n n M = matF n M := rfl
/-- A row while it is filled. -/
def rowT (k : Nat) (f : Nat → Int) (b : Nat) : Int := if b < k then f b else 0
theorem rowT_set {n k : Nat} (f : Nat → Int) (v : Int) (h : f k = v) : (rowF n (rowT k f)).set k v = rowF n (rowT (k + 1) f) := by
  rw [rowF_set]
  refine rowF_congr fun j _ => ?_
  unfold rowT
  by_cases e : j = k
  · subst e; rw [if_pos rfl, if_pos (by omega), h]
  · rw [if_neg e]
    by_cases h1 : j < k
    · rw [if_pos h1, if_pos (by omega)]
    · rw [if_neg h1, if_neg (by omega)]
theorem rowT_skip {n k : Nat} (f : Nat → Int) (h : f k = 0) : rowF n (rowT k f) = rowF n (rowT (k + 1) f) := by
  refine rowF_congr fun j _ => ?_
  unfold rowT
  by_cases e : j = k
  · subst e; rw [if_neg (by omega), if_pos (by omega), h]
  · by_cases h1 : j < k
    · rw [if_pos h1, if_pos (by omega)]
    · rw [if_neg h1, if_neg (by omega)]
/-- The matrix while a step is taken. -/
def fwT (D : Nat → Nat → Int) (b i k x y : Nat) : Int := if x < i ∨ (x = i ∧ y < k) then fwS D b x y else D x y
theorem fwT_at (D : Nat → Nat → Int) (b i k : Nat) : fwT D b i k i k = D i k := by unfold fwT; rw [if_neg (by omega)]
theorem fwT_col (D : Nat → Nat → Int) (b i k x : Nat) : fwT D b i k x b = D x b := by unfold fwT; split; exact fwS_col D b x; rfl
theorem fwT_row (D : Nat → Nat → Int) (b i k y : Nat) : fwT D b i k b y = D b y := by unfold fwT; split; exact fwS_row D b y; rfl
theorem fwT_zero (D : Nat → Nat → Int) (b x y : Nat) : fwT D b 0 0 x y = D x y := by unfold fwT; rw [if_neg (by omega)]
theorem fwT_next (D : Nat → Nat → Int) (b i k x y : Nat) : fwT D b i (k + 1) x y = if x = i ∧ y = k then fwS D b i k else fwT D b i k x y := by
  unfold fwT
  by_cases h : x = i ∧ y = k
  · obtain ⟨rfl, rfl⟩ := h
    rw [if_pos (by omega), if_pos ⟨rfl, rfl⟩]
  · rw [if_neg h]
    by_cases h1 : x < i ∨ (x = i ∧ y < k)
    · rw [if_pos h1, if_pos (by omega)]
    · rw [if_neg h1, if_neg (by omega)]
theorem fwT_line (D : Nat → Nat → Int) (b i n x y : Nat) (hy : y < n) : fwT D b i n x y = fwT D b (i + 1) 0 x y := by
  unfold fwT
  by_cases h1 : x < i ∨ (x = i ∧ y < n)
  · rw [if_pos h1, if_pos (by omega)]
  · rw [if_neg h1, if_neg (by omega)]
theorem fwT_all (D : Nat → Nat → Int) (b n x y : Nat) (hx : x < n) : fwT D b n 0 x y = fwS D b x y := by unfold fwT; rw [if_pos (.inl hx)]
theorem prs_all {n : Nat} {rs : List (List Nat)} {ws : List Int} (ok : PrOk n rs ws) (a b : Nat) : 0 ≤ prs (rs.zip ws) a b ∧ prs (rs.zip ws) a b ≤ 432000 := by
  have h := prs_bd (rs.zip ws) a b (fun p hp => by
    have h1 := (List.of_mem_zip (a := p.1) (b := p.2) hp)
    exact ⟨by rw [ok.len h1.1]; exact ok.n6, ok.wt _ h1.2⟩)
  have l : (rs.zip ws).length ≤ 12 := by rw [List.length_zip]; have := ok.m12; omega
  omega
set_option maxHeartbeats 4000000 in
theorem strengths_ok (n : Nat) (rs : List (List Nat)) (ws : List Int) (ok : PrOk n rs ws) (RA : Option Addr) (rc : Nat) (WA : Option Addr) (wc : Nat) (w : World) (h : PrV w RA rc WA wc rs ws) :
    Calls Try.prog 34 #[.agg #[.slice RA rs.length rc, .slice WA rs.length wc]] w (MadeF n (strg n (prs (rs.zip ws))) w) := by
  have ba := bel_alloc w (.cells #[.slice RA rs.length rc, .slice WA rs.length wc] 27)
  have C0 := Cs.new w [.slice RA rs.length rc, .slice WA rs.length wc] 27
  have n1 := ok.n1
  have n6 := ok.n6
  have hmk := fun W => run_make_row' (P := Try.prog) 25 2 (.int .i64 0) 8 Try.underlying25 info_int rfl .i64 .i64 n (by omega) (by omega) W
  have sA : (w.alloc (.cells #[.slice RA rs.length rc, .slice WA rs.length wc] 27)).heap.size = w.heap.size + 1 := by simp
  obtain ⟨w0, hw0⟩ : ∃ x, w.alloc (.cells #[.slice RA rs.length rc, .slice WA rs.length wc] 27) = x := ⟨_, rfl⟩
  rw [hw0] at ba C0 sA
  have H := Lib.hid (h.below ba)
  have HC := Lib.hid C0
  have BA := Lib.hid ba
  have OK := Lib.hid ok
  have HW := Lib.hid hw0
  have PB := Lib.hid (prs_all ok)
  have SS := Lib.hid (fun (W : World) (hW : Below w0.heap.size w0 W) => (show Below w0.heap.size w0 W ∧ W.cell? ⟨w.heap.size, 0, none⟩ = some (.slice RA rs.length rc) ∧ W.cell? ⟨w.heap.size, 1, none⟩ = some (.slice WA rs.length wc) from ⟨hW, (HC.out.below hW).cell 0 rfl, (HC.out.below hW).cell 1 rfl⟩))
  clear h C0 ba ok hw0
  go_enter Try.func34, Try.ntmps34
  go_wp2_with fail
  rw [HW.out]
  refine wp_region_noPanic ?_
  refine wp_region_R (inFirst (fun W => Below w0.heap.size w0 W ∧ W.cell? ⟨w.heap.size, 0, none⟩ = some (.slice RA rs.length rc) ∧ W.cell? ⟨w.heap.size, 1, none⟩ = some (.slice WA rs.length wc)) 6) (by kernel_rfl) ?_
  have hS := SS.out w0.drew ⟨rfl, rfl, rfl, Nat.le_refl _, fun _ _ => rfl⟩
  refine anyR_take (i := 0) (.agg #[.slice RA rs.length rc, .slice WA rs.length wc]) rfl (by kernel_rfl) (by kernel_rfl) (by kernel_rfl) (by kernel_rfl) (fun _ _ _ h => h) (by assumption) ⟨by rfl, ?_⟩ ?_
  · intro W hW
    go_simp
  try simp only [Act.put, List.setIfInBounds_toArray, List.set_cons_zero, List.set_cons_succ, List.getElem_toArray, List.getElem_cons_zero, List.getElem_cons_succ]
  refine anyR_take (i := 2) (.agg #[.slice RA rs.length rc, .slice WA rs.length wc]) rfl (by kernel_rfl) (by kernel_rfl) (by kernel_rfl) (by kernel_rfl) (fun _ _ _ h => h) (by assumption) ⟨by rfl, ?_⟩ ?_
  · intro W hW
    go_simp
  try simp only [Act.put, List.setIfInBounds_toArray, List.set_cons_zero, List.set_cons_succ, List.getElem_toArray, List.getElem_cons_zero, List.getElem_cons_succ]
  refine anyR_one (i := 1) (by kernel_rfl) rfl ?_
  intro K hK
  go_simp
  go_at_call 39
  refine (options_ok n rs ws OK.out RA rc WA wc _ (H.out.below hS.1)).mono ?_
  rintro e w1 ⟨rfl, b1⟩
  have hT := SS.out w1 (bel_trans hS.1 b1)
  refine hK.out _ _ (fun _ => hT) ?_
  clear hS b1
  have hS := hT
  clear hT
  clear hK K
  try simp only [Act.put, List.setIfInBounds_toArray, List.set_cons_zero, List.set_cons_succ, List.getElem_toArray, List.getElem_cons_zero, List.getElem_cons_succ]
  refine anyR_one (i := 3) (by kernel_rfl) rfl ?_
  intro K hK
  go_simp
  go_at_call 33
  refine (pairs_ok n rs ws OK.out RA rc WA wc _ (H.out.below hS.1)).mono ?_
  rintro e w2 ⟨gP, cP, vP, rfl, oP, b2⟩
  have hT := SS.out w2 (bel_trans hS.1 b2)
  have MP := Lib.hid oP
  refine hK.out _ _ (fun _ => hT) ?_
  clear hS b2 oP
  have hS := hT
  clear hT
  clear hK K
  try simp only [Act.put, List.setIfInBounds_toArray, List.set_cons_zero, List.set_cons_succ, List.getElem_toArray, List.getElem_cons_zero, List.getElem_cons_succ]
  refine anyR_take (i := 4) (.int .i64 n) rfl (by kernel_rfl) (by kernel_rfl) (by kernel_rfl) (by kernel_rfl) (fun _ _ _ h => h) (by assumption) ⟨by rfl, ?_⟩ ?_
  · intro W hW
    go_simp
  try simp only [Act.put, List.setIfInBounds_toArray, List.set_cons_zero, List.set_cons_succ, List.getElem_toArray, List.getElem_cons_zero, List.getElem_cons_succ]
  refine anyR_take (i := 5) (.slice (some ⟨gP, 0, none⟩) n cP) rfl (by kernel_rfl) (by kernel_rfl) (by kernel_rfl) (by kernel_rfl) (fun _ _ _ h => h) (by assumption) ⟨by rfl, ?_⟩ ?_
  · intro W hW
    go_simp
  try simp only [Act.put, List.setIfInBounds_toArray, List.set_cons_zero, List.set_cons_succ, List.getElem_toArray, List.getElem_cons_zero, List.getElem_cons_succ]
  refine anyR_done (by kernel_rfl) ?_ _
  refine NoPanic.normal ?_
  have BB := Lib.hid (bel_trans BA.out hS.1)
  clear hS SS
  obtain ⟨P, hP⟩ : ∃ P, prs (rs.zip ws) = P := ⟨_, rfl⟩
  rw [hP] at MP PB
  have HPP := Lib.hid hP
  have ol := Lib.hid (ownM_lit w2)
  have bl := Lib.hid (bel_alloc w2 (.cells #[] 25))
  clear hP
  go_wp2_with fail
  go_loopw [5, 18] (fun s t wr => ∃ (i : Nat) (A : Option Addr) (c : Nat) (vs : List Value), i ≤ n ∧ s = .slice A i c ∧ t = .int .i64 i ∧ OwnM wr w2.heap.size A i c vs (rowsF i n (ini P)) ∧ Below w2.heap.size w2 wr) (fun _ t _ => n - (intOf t).toNat)
  case atStart => exact ⟨0, _, 0, [], Nat.zero_le _, rfl, rfl, ol.out, bl.out⟩
  case round =>
    obtain ⟨i, A, c, vs, hi, rfl, rfl, hO, hB⟩ := hrel
    rename World => wo
    have O2 := Lib.hid hO
    have B2 := Lib.hid hB
    have zz := hB.size
    clear hO hB ol bl
    by_cases hlt : i < n
    · have d0 := decide_eq_true (show (i : Int) < (n : Int) by omega)
      have ROW0 := zeros_row wo n n6
      have bz := bel_alloc wo (.cells (madeCells #[.int .i64 0] n) 2)
      have RZ := Lib.hid (show OwnI (wo.alloc (.cells (madeCells #[.int .i64 0] n) 2)) wo.heap.size (some ⟨wo.heap.size, 0, none⟩) n n (rowF n (rowT 0 (ini P i))) from by
        rw [rowF_congr (g := fun _ => 0) (fun k _ => by unfold rowT; rw [if_neg (by omega)])]; exact ROW0)
      have BZ := Lib.hid bz
      clear ROW0 bz
      go_wp2_with fail
      go_loopw [24] (fun t wq => ∃ k : Nat, k ≤ n ∧ t = .int .i64 k ∧ OwnI wq wo.heap.size (some ⟨wo.heap.size, 0, none⟩) n n (rowF n (rowT k (ini P i))) ∧ Below wo.heap.size wo wq) (fun t _ => n - (intOf t).toNat)
      case atStart => exact ⟨0, Nat.zero_le _, rfl, RZ.out, BZ.out⟩
      case round =>
        obtain ⟨k, hk, rfl, hO, hB⟩ := hrel
        have O3 := Lib.hid hO
        have B3 := Lib.hid hB
        clear hO hB RZ BZ
        by_cases hlk : k < n
        · have d1 := decide_eq_true (show (k : Int) < (n : Int) by omega)
          obtain ⟨gi, ci, RI⟩ := MP.out.rowAt hlt
          obtain ⟨gk, ck, RK⟩ := MP.out.rowAt hlk
          have bw := bel_trans B2.out B3.out
          have c1 := (bw.cell (p := ⟨gP, i, none⟩) RI.glt).trans RI.cell
          have c2 := (bw.cell (p := ⟨gi, k, none⟩) RI.lt).trans (RI.at' k hlk)
          have c3 := (bw.cell (p := ⟨gP, k, none⟩) RK.glt).trans RK.cell
          have c4 := (bw.cell (p := ⟨gk, i, none⟩) RK.lt).trans (RK.at' i hlt)
          have i0 : (0 : Int) ≤ (i : Int) := by omega
          have i1 : (i : Int) < (n : Int) := by omega
          have k0 : (0 : Int) ≤ (k : Int) := by omega
          have k1 : (k : Int) < (n : Int) := by omega
          have p1 := PB.out i k
          have p2 := PB.out k i
          have IN := Lib.hid (show ini P i k = if P k i < P i k then P i k else 0 from rfl)
          have RS := Lib.hid (fun v (h : ini P i k = v) => rowT_set (n := n) (k := k) (ini P i) v h)
          have RSK := Lib.hid (fun (h : ini P i k = 0) => rowT_skip (n := n) (k := k) (ini P i) h)
          obtain ⟨x, hx⟩ : ∃ x, P i k = x := ⟨_, rfl⟩
          obtain ⟨y, hy⟩ : ∃ x, P k i = x := ⟨_, rfl⟩
          rw [hx, hy] at IN
          rw [hx] at c2 p1
          rw [hy] at c4 p2
          have crow := O3.out.cell (rowF_at (rowT k (ini P i)) hlk)
          have frow := O3.out.free k
          clear bw RI RK hx hy
          by_cases hgt : y < x
          · have dg := decide_eq_true hgt
            have OS := Lib.hid (O3.out.set k x (by omega) (by omega))
            have EQ := Lib.hid (RS.out x (by rw [IN.out, if_pos hgt]))
            clear hgt
            go_wp2_with fail
            refine wp_region_noPanic ?_
            refine wp_region_R (inFirst (fun W => W.cell? ⟨gP, i, none⟩ = some (.slice (some ⟨gi, 0, none⟩) n ci) ∧ W.cell? ⟨gi, k, none⟩ = some (.int .i64 x) ∧ W.cell? ⟨gP, k, none⟩ = some (.slice (some ⟨gk, 0, none⟩) n ck) ∧ W.cell? ⟨gk, i, none⟩ = some (.int .i64 y)) 15) (by kernel_rfl) ?_
            have hS : wr.drew.cell? ⟨gP, i, none⟩ = some (.slice (some ⟨gi, 0, none⟩) n ci) ∧ wr.drew.cell? ⟨gi, k, none⟩ = some (.int .i64 x) ∧ wr.drew.cell? ⟨gP, k, none⟩ = some (.slice (some ⟨gk, 0, none⟩) n ck) ∧ wr.drew.cell? ⟨gk, i, none⟩ = some (.int .i64 y) := ⟨c1, c2, c3, c4⟩
            refine anyR_take (i := 0) (.slice (some ⟨gP, 0, none⟩) n cP) rfl (by kernel_rfl) (by kernel_rfl) (by kernel_rfl) (by kernel_rfl) (fun _ _ _ h => h) (by assumption) ⟨by rfl, ?_⟩ ?_
            · intro W hW
              go_simp
            try simp only [Act.put, List.setIfInBounds_toArray, List.set_cons_zero, List.set_cons_succ, List.getElem_toArray, List.getElem_cons_zero, List.getElem_cons_succ]
            refine anyR_take (i := 1) (.int .i64 i) rfl (by kernel_rfl) (by kernel_rfl) (by kernel_rfl) (by kernel_rfl) (fun _ _ _ h => h) (by assumption) ⟨by rfl, ?_⟩ ?_
            · intro W hW
              go_simp
            try simp only [Act.put, List.setIfInBounds_toArray, List.set_cons_zero, List.set_cons_succ, List.getElem_toArray, List.getElem_cons_zero, List.getElem_cons_succ]
            refine anyR_take (i := 2) (.pointer (some ⟨gP, i, none⟩)) rfl (by kernel_rfl) (by kernel_rfl) (by kernel_rfl) (by kernel_rfl) (fun _ _ _ h => h) (by assumption) ⟨by rfl, ?_⟩ ?_
            · intro W hW
              go_simp
            try simp only [Act.put, List.setIfInBounds_toArray, List.set_cons_zero, List.set_cons_succ, List.getElem_toArray, List.getElem_cons_zero, List.getElem_cons_succ]
            refine anyR_take (i := 3) (.slice (some ⟨gi, 0, none⟩) n ci) rfl (by kernel_rfl) (by kernel_rfl) (by kernel_rfl) (by kernel_rfl) (fun _ _ _ h => h) (by assumption) ⟨by rfl, ?_⟩ ?_
            · intro W hW
              go_simp
            try simp only [Act.put, List.setIfInBounds_toArray, List.set_cons_zero, List.set_cons_succ, List.getElem_toArray, List.getElem_cons_zero, List.getElem_cons_succ]
            refine anyR_take (i := 4) (.int .i64 k) rfl (by kernel_rfl) (by kernel_rfl) (by kernel_rfl) (by kernel_rfl) (fun _ _ _ h => h) (by assumption) ⟨by rfl, ?_⟩ ?_
            · intro W hW
              go_simp
            try simp only [Act.put, List.setIfInBounds_toArray, List.set_cons_zero, List.set_cons_succ, List.getElem_toArray, List.getElem_cons_zero, List.getElem_cons_succ]
            refine anyR_take (i := 5) (.pointer (some ⟨gi, k, none⟩)) rfl (by kernel_rfl) (by kernel_rfl) (by kernel_rfl) (by kernel_rfl) (fun _ _ _ h => h) (by assumption) ⟨by rfl, ?_⟩ ?_
            · intro W hW
              go_simp
            try simp only [Act.put, List.setIfInBounds_toArray, List.set_cons_zero, List.set_cons_succ, List.getElem_toArray, List.getElem_cons_zero, List.getElem_cons_succ]
            refine anyR_take (i := 6) (.int .i64 x) rfl (by kernel_rfl) (by kernel_rfl) (by kernel_rfl) (by kernel_rfl) (fun _ _ _ h => h) (by assumption) ⟨by rfl, ?_⟩ ?_
            · intro W hW
              go_simp
            try simp only [Act.put, List.setIfInBounds_toArray, List.set_cons_zero, List.set_cons_succ, List.getElem_toArray, List.getElem_cons_zero, List.getElem_cons_succ]
            refine anyR_take (i := 7) (.slice (some ⟨gP, 0, none⟩) n cP) rfl (by kernel_rfl) (by kernel_rfl) (by kernel_rfl) (by kernel_rfl) (fun _ _ _ h => h) (by assumption) ⟨by rfl, ?_⟩ ?_
            · intro W hW
              go_simp
            try simp only [Act.put, List.setIfInBounds_toArray, List.set_cons_zero, List.set_cons_succ, List.getElem_toArray, List.getElem_cons_zero, List.getElem_cons_succ]
            refine anyR_take (i := 8) (.int .i64 k) rfl (by kernel_rfl) (by kernel_rfl) (by kernel_rfl) (by kernel_rfl) (fun _ _ _ h => h) (by assumption) ⟨by rfl, ?_⟩ ?_
            · intro W hW
              go_simp
            try simp only [Act.put, List.setIfInBounds_toArray, List.set_cons_zero, List.set_cons_succ, List.getElem_toArray, List.getElem_cons_zero, List.getElem_cons_succ]
            refine anyR_take (i := 9) (.pointer (some ⟨gP, k, none⟩)) rfl (by kernel_rfl) (by kernel_rfl) (by kernel_rfl) (by kernel_rfl) (fun _ _ _ h => h) (by assumption) ⟨by rfl, ?_⟩ ?_
            · intro W hW
              go_simp
            try simp only [Act.put, List.setIfInBounds_toArray, List.set_cons_zero, List.set_cons_succ, List.getElem_toArray, List.getElem_cons_zero, List.getElem_cons_succ]
            refine anyR_take (i := 10) (.slice (some ⟨gk, 0, none⟩) n ck) rfl (by kernel_rfl) (by kernel_rfl) (by kernel_rfl) (by kernel_rfl) (fun _ _ _ h => h) (by assumption) ⟨by rfl, ?_⟩ ?_
            · intro W hW
              go_simp
            try simp only [Act.put, List.setIfInBounds_toArray, List.set_cons_zero, List.set_cons_succ, List.getElem_toArray, List.getElem_cons_zero, List.getElem_cons_succ]
            refine anyR_take (i := 11) (.int .i64 i) rfl (by kernel_rfl) (by kernel_rfl) (by kernel_rfl) (by kernel_rfl) (fun _ _ _ h => h) (by assumption) ⟨by rfl, ?_⟩ ?_
            · intro W hW
              go_simp
            try simp only [Act.put, List.setIfInBounds_toArray, List.set_cons_zero, List.set_cons_succ, List.getElem_toArray, List.getElem_cons_zero, List.getElem_cons_succ]
            refine anyR_take (i := 12) (.pointer (some ⟨gk, i, none⟩)) rfl (by kernel_rfl) (by kernel_rfl) (by kernel_rfl) (by kernel_rfl) (fun _ _ _ h => h) (by assumption) ⟨by rfl, ?_⟩ ?_
            · intro W hW
              go_simp
            try simp only [Act.put, List.setIfInBounds_toArray, List.set_cons_zero, List.set_cons_succ, List.getElem_toArray, List.getElem_cons_zero, List.getElem_cons_succ]
            refine anyR_take (i := 13) (.int .i64 y) rfl (by kernel_rfl) (by kernel_rfl) (by kernel_rfl) (by kernel_rfl) (fun _ _ _ h => h) (by assumption) ⟨by rfl, ?_⟩ ?_
            · intro W hW
              go_simp
            try simp only [Act.put, List.setIfInBounds_toArray, List.set_cons_zero, List.set_cons_succ, List.getElem_toArray, List.getElem_cons_zero, List.getElem_cons_succ]
            refine anyR_take (i := 14) (.bool true) rfl (by kernel_rfl) (by kernel_rfl) (by kernel_rfl) (by kernel_rfl) (fun _ _ _ h => h) (by assumption) ⟨by rfl, ?_⟩ ?_
            · intro W hW
              go_simp
            try simp only [Act.put, List.setIfInBounds_toArray, List.set_cons_zero, List.set_cons_succ, List.getElem_toArray, List.getElem_cons_zero, List.getElem_cons_succ]
            refine anyR_done (by kernel_rfl) ?_ _
            refine NoPanic.normal ?_
            clear hS
            go_wp2_with fail
            go_roundw
            case rel => exact ⟨k + 1, by omega, by go_num, by rw [← EQ.out]; exact OS.out.1.below ⟨rfl, rfl, rfl, Nat.le_refl _, fun _ _ => rfl⟩, bel_trans (B3.out.setCell (p := ⟨wo.heap.size, k, none⟩) (Nat.le_refl _) _) ⟨rfl, rfl, rfl, Nat.le_refl _, fun _ _ => rfl⟩⟩
            case measure => simp [intOf]; omega
          · have dg := decide_eq_false hgt
            have EQ := Lib.hid (RSK.out (by rw [IN.out, if_neg hgt]))
            clear hgt crow frow
            go_wp2_with fail
            refine wp_region_noPanic ?_
            refine wp_region_R (inFirst (fun W => W.cell? ⟨gP, i, none⟩ = some (.slice (some ⟨gi, 0, none⟩) n ci) ∧ W.cell? ⟨gi, k, none⟩ = some (.int .i64 x) ∧ W.cell? ⟨gP, k, none⟩ = some (.slice (some ⟨gk, 0, none⟩) n ck) ∧ W.cell? ⟨gk, i, none⟩ = some (.int .i64 y)) 15) (by kernel_rfl) ?_
            have hS : wr.drew.cell? ⟨gP, i, none⟩ = some (.slice (some ⟨gi, 0, none⟩) n ci) ∧ wr.drew.cell? ⟨gi, k, none⟩ = some (.int .i64 x) ∧ wr.drew.cell? ⟨gP, k, none⟩ = some (.slice (some ⟨gk, 0, none⟩) n ck) ∧ wr.drew.cell? ⟨gk, i, none⟩ = some (.int .i64 y) := ⟨c1, c2, c3, c4⟩
            refine anyR_take (i := 0) (.slice (some ⟨gP, 0, none⟩) n cP) rfl (by kernel_rfl) (by kernel_rfl) (by kernel_rfl) (by kernel_rfl) (fun _ _ _ h => h) (by assumption) ⟨by rfl, ?_⟩ ?_
            · intro W hW
              go_simp
            try simp only [Act.put, List.setIfInBounds_toArray, List.set_cons_zero, List.set_cons_succ, List.getElem_toArray, List.getElem_cons_zero, List.getElem_cons_succ]
            refine anyR_take (i := 1) (.int .i64 i) rfl (by kernel_rfl) (by kernel_rfl) (by kernel_rfl) (by kernel_rfl) (fun _ _ _ h => h) (by assumption) ⟨by rfl, ?_⟩ ?_
            · intro W hW
              go_simp
            try simp only [Act.put, List.setIfInBounds_toArray, List.set_cons_zero, List.set_cons_succ, List.getElem_toArray, List.getElem_cons_zero, List.getElem_cons_succ]
            refine anyR_take (i := 2) (.pointer (some ⟨gP, i, none⟩)) rfl (by kernel_rfl) (by kernel_rfl) (by kernel_rfl) (by kernel_rfl) (fun _ _ _ h => h) (by assumption) ⟨by rfl, ?_⟩ ?_
            · intro W hW
              go_simp
            try simp only [Act.put, List.setIfInBounds_toArray, List.set_cons_zero, List.set_cons_succ, List.getElem_toArray, List.getElem_cons_zero, List.getElem_cons_succ]
            refine anyR_take (i := 3) (.slice (some ⟨gi, 0, none⟩) n ci) rfl (by kernel_rfl) (by kernel_rfl) (by kernel_rfl) (by kernel_rfl) (fun _ _ _ h => h) (by assumption) ⟨by rfl, ?_⟩ ?_
            · intro W hW
              go_simp
            try simp only [Act.put, List.setIfInBounds_toArray, List.set_cons_zero, List.set_cons_succ, List.getElem_toArray, List.getElem_cons_zero, List.getElem_cons_succ]
            refine anyR_take (i := 4) (.int .i64 k) rfl (by kernel_rfl) (by kernel_rfl) (by kernel_rfl) (by kernel_rfl) (fun _ _ _ h => h) (by assumption) ⟨by rfl, ?_⟩ ?_
            · intro W hW
              go_simp
            try simp only [Act.put, List.setIfInBounds_toArray, List.set_cons_zero, List.set_cons_succ, List.getElem_toArray, List.getElem_cons_zero, List.getElem_cons_succ]
            refine anyR_take (i := 5) (.pointer (some ⟨gi, k, none⟩)) rfl (by kernel_rfl) (by kernel_rfl) (by kernel_rfl) (by kernel_rfl) (fun _ _ _ h => h) (by assumption) ⟨by rfl, ?_⟩ ?_
            · intro W hW
              go_simp
            try simp only [Act.put, List.setIfInBounds_toArray, List.set_cons_zero, List.set_cons_succ, List.getElem_toArray, List.getElem_cons_zero, List.getElem_cons_succ]
            refine anyR_take (i := 6) (.int .i64 x) rfl (by kernel_rfl) (by kernel_rfl) (by kernel_rfl) (by kernel_rfl) (fun _ _ _ h => h) (by assumption) ⟨by rfl, ?_⟩ ?_
            · intro W hW
              go_simp
            try simp only [Act.put, List.setIfInBounds_toArray, List.set_cons_zero, List.set_cons_succ, List.getElem_toArray, List.getElem_cons_zero, List.getElem_cons_succ]
            refine anyR_take (i := 7) (.slice (some ⟨gP, 0, none⟩) n cP) rfl (by kernel_rfl) (by kernel_rfl) (by kernel_rfl) (by kernel_rfl) (fun _ _ _ h => h) (by assumption) ⟨by rfl, ?_⟩ ?_
            · intro W hW
              go_simp
            try simp only [Act.put, List.setIfInBounds_toArray, List.set_cons_zero, List.set_cons_succ, List.getElem_toArray, List.getElem_cons_zero, List.getElem_cons_succ]
            refine anyR_take (i := 8) (.int .i64 k) rfl (by kernel_rfl) (by kernel_rfl) (by kernel_rfl) (by kernel_rfl) (fun _ _ _ h => h) (by assumption) ⟨by rfl, ?_⟩ ?_
            · intro W hW
              go_simp
            try simp only [Act.put, List.setIfInBounds_toArray, List.set_cons_zero, List.set_cons_succ, List.getElem_toArray, List.getElem_cons_zero, List.getElem_cons_succ]
            refine anyR_take (i := 9) (.pointer (some ⟨gP, k, none⟩)) rfl (by kernel_rfl) (by kernel_rfl) (by kernel_rfl) (by kernel_rfl) (fun _ _ _ h => h) (by assumption) ⟨by rfl, ?_⟩ ?_
            · intro W hW
              go_simp
            try simp only [Act.put, List.setIfInBounds_toArray, List.set_cons_zero, List.set_cons_succ, List.getElem_toArray, List.getElem_cons_zero, List.getElem_cons_succ]
            refine anyR_take (i := 10) (.slice (some ⟨gk, 0, none⟩) n ck) rfl (by kernel_rfl) (by kernel_rfl) (by kernel_rfl) (by kernel_rfl) (fun _ _ _ h => h) (by assumption) ⟨by rfl, ?_⟩ ?_
            · intro W hW
              go_simp
            try simp only [Act.put, List.setIfInBounds_toArray, List.set_cons_zero, List.set_cons_succ, List.getElem_toArray, List.getElem_cons_zero, List.getElem_cons_succ]
            refine anyR_take (i := 11) (.int .i64 i) rfl (by kernel_rfl) (by kernel_rfl) (by kernel_rfl) (by kernel_rfl) (fun _ _ _ h => h) (by assumption) ⟨by rfl, ?_⟩ ?_
            · intro W hW
              go_simp
            try simp only [Act.put, List.setIfInBounds_toArray, List.set_cons_zero, List.set_cons_succ, List.getElem_toArray, List.getElem_cons_zero, List.getElem_cons_succ]
            refine anyR_take (i := 12) (.pointer (some ⟨gk, i, none⟩)) rfl (by kernel_rfl) (by kernel_rfl) (by kernel_rfl) (by kernel_rfl) (fun _ _ _ h => h) (by assumption) ⟨by rfl, ?_⟩ ?_
            · intro W hW
              go_simp
            try simp only [Act.put, List.setIfInBounds_toArray, List.set_cons_zero, List.set_cons_succ, List.getElem_toArray, List.getElem_cons_zero, List.getElem_cons_succ]
            refine anyR_take (i := 13) (.int .i64 y) rfl (by kernel_rfl) (by kernel_rfl) (by kernel_rfl) (by kernel_rfl) (fun _ _ _ h => h) (by assumption) ⟨by rfl, ?_⟩ ?_
            · intro W hW
              go_simp
            try simp only [Act.put, List.setIfInBounds_toArray, List.set_cons_zero, List.set_cons_succ, List.getElem_toArray, List.getElem_cons_zero, List.getElem_cons_succ]
            refine anyR_take (i := 14) (.bool false) rfl (by kernel_rfl) (by kernel_rfl) (by kernel_rfl) (by kernel_rfl) (fun _ _ _ h => h) (by assumption) ⟨by rfl, ?_⟩ ?_
            · intro W hW
              go_simp
            try simp only [Act.put, List.setIfInBounds_toArray, List.set_cons_zero, List.set_cons_succ, List.getElem_toArray, List.getElem_cons_zero, List.getElem_cons_succ]
            refine anyR_done (by kernel_rfl) ?_ _
            refine NoPanic.normal ?_
            clear hS
            go_wp2_with fail
            go_roundw
            case rel => exact ⟨k + 1, by omega, by go_num, by rw [← EQ.out]; exact O3.out.below ⟨rfl, rfl, rfl, Nat.le_refl _, fun _ _ => rfl⟩, bel_trans B3.out ⟨rfl, rfl, rfl, Nat.le_refl _, fun _ _ => rfl⟩⟩
            case measure => simp [intOf]; omega
        · obtain rfl : n = k := by omega
          have d1 := decide_eq_false (show ¬ (n : Int) < (n : Int) by omega)
          have RW := Lib.hid (show OwnI wr wo.heap.size (some ⟨wo.heap.size, 0, none⟩) n n (rowF n (ini P i)) from by
            rw [← rowF_congr (f := rowT n (ini P i)) (g := ini P i) (fun b hb => by unfold rowT; rw [if_pos hb])]; exact O3.out)
          have O4 := Lib.hid (O2.out.below B3.out)
          have AP := Lib.hid (apart_new (base := 0) (fun v hv g' hg' => (O2.out.blocks v hv g' hg').2) RW.out)
          have RW2 := Lib.hid (RW.out.mono (b2 := w2.heap.size) zz)
          have B4 := Lib.hid (bel_trans B2.out B3.out)
          have sz4 : w2.heap.size ≤ wr.heap.size := B4.out.size
          have BK := Lib.hid (fun x hx => (show w2.heap.size ≤ x from (O4.out.block x hx).1))
          have i40 : i ≤ 1099511627776 := by omega
          clear O3 B3 RW
          go_wp2_with (at_builtin; refine app_row wr rfl _ _ rfl w2.heap.size A i c vs _ rfl O4.out (some ⟨wo.heap.size, 0, none⟩) n n (rowF n (ini P i)) RW2.out AP.out rfl i40 sz4 ?_; intro A7 c7 w7 p1 p2; have M7 := Lib.hid p1; have B7 := Lib.hid (B4.out.grown p2 sz4 BK.out); clear p1 p2)
          go_roundw
          case rel => exact ⟨i + 1, A7, c7, _, by omega, rfl, by go_num, by rw [rowsF_succ]; exact M7.out, B7.out⟩
          case measure => simp [intOf]; omega
    · obtain rfl : n = i := by omega
      have d0 := decide_eq_false (show ¬ (n : Int) < (n : Int) by omega)
      obtain ⟨g, rfl, gg1, gg2⟩ := O2.out.form (by omega)
      have O3 := Lib.hid (show OwnM wo w2.heap.size (some ⟨g, 0, none⟩) n c vs (matF n (fw (ini P) 0)) from O2.out)
      have IB := Lib.hid (fun b i k => fw_bd (fun i k => ini_bd (L := 432000) PB.out (by omega) i k) b i k)
      clear O2 hmk
      go_wp2_with fail
      go_loopw [59] (fun t wq => ∃ b : Nat, b ≤ n ∧ t = .int .i64 b ∧ OwnM wq w2.heap.size (some ⟨g, 0, none⟩) n c vs (matF n (fw (ini P) b)) ∧ Below w2.heap.size w2 wq) (fun t _ => n - (intOf t).toNat)
      case atStart => exact ⟨0, Nat.zero_le _, rfl, O3.out, B2.out⟩
      case round =>
        obtain ⟨b, hb, rfl, hO, hB⟩ := hrel
        have O4 := Lib.hid hO
        have B4 := Lib.hid hB
        clear hO hB O3 B2
        by_cases hlb : b < n
        · have d1 := decide_eq_true (show (b : Int) < (n : Int) by omega)
          have IBB := Lib.hid (fun i k => IB.out b i k)
          have NXT := Lib.hid (fun i k => (show fw (ini P) (b + 1) i k = fwS (fw (ini P) b) b i k from rfl))
          obtain ⟨D, hD⟩ : ∃ D, fw (ini P) b = D := ⟨_, rfl⟩
          rw [hD] at O4 IBB NXT
          clear hD
          go_wp2_with fail
          go_loopw [63] (fun t wq => ∃ i : Nat, i ≤ n ∧ t = .int .i64 i ∧ OwnM wq w2.heap.size (some ⟨g, 0, none⟩) n c vs (matF n (fwT D b i 0)) ∧ Below w2.heap.size w2 wq) (fun t _ => n - (intOf t).toNat)
          case atStart => exact ⟨0, Nat.zero_le _, rfl, by rw [matF_congr (K := D) (fun x y _ _ => fwT_zero D b x y)]; exact O4.out, B4.out⟩
          case round =>
            obtain ⟨i, hi2, rfl, hO, hB⟩ := hrel
            have O5 := Lib.hid hO
            have B5 := Lib.hid hB
            clear hO hB O4 B4
            by_cases hli : i < n
            · have d2 := decide_eq_true (show (i : Int) < (n : Int) by omega)
              go_wp2_with fail
              go_loopw [67] (fun t wq => ∃ k : Nat, k ≤ n ∧ t = .int .i64 k ∧ OwnM wq w2.heap.size (some ⟨g, 0, none⟩) n c vs (matF n (fwT D b i k)) ∧ Below w2.heap.size w2 wq) (fun t _ => n - (intOf t).toNat)
              case atStart => exact ⟨0, Nat.zero_le _, rfl, O5.out, B5.out⟩
              case round =>
                obtain ⟨k, hk, rfl, hO, hB⟩ := hrel
                have O6 := Lib.hid hO
                have B6 := Lib.hid hB
                clear hO hB O5 B5
                by_cases hlk : k < n
                · have d3 := decide_eq_true (show (k : Int) < (n : Int) by omega)
                  by_cases hik : i = k
                  · subst hik
                    have ne : ((i : Int) != (i : Int)) = false := by simp
                    have O7 := Lib.hid (show OwnM wr w2.heap.size (some ⟨g, 0, none⟩) n c vs (matF n (fwT D b i (i + 1))) from by
                      rw [matF_congr (K := fwT D b i i) (fun x y _ _ => by
                        rw [fwT_next]
                        by_cases h : x = i ∧ y = i
                        · obtain ⟨rfl, rfl⟩ := h
                          rw [if_pos ⟨rfl, rfl⟩, fwT_at]
                          unfold fwS
                          rw [if_pos rfl]
                        · rw [if_neg h])]
                      exact O6.out)
                    go_wp2_with fail
                    go_roundw
                    case rel => exact ⟨i + 1, by omega, by go_num, O7.out, B6.out⟩
                    case measure => simp [intOf]; omega
                  · have ne : ((i : Int) != (k : Int)) = true := by simp; omega
                    obtain ⟨gi, ci, RI⟩ := (show OwnM wr.drew w2.heap.size (some ⟨g, 0, none⟩) n c vs (matF n (fwT D b i k)) from O6.out.below ⟨rfl, rfl, rfl, Nat.le_refl _, fun _ _ => rfl⟩).rowAt hli
                    obtain ⟨gb, cb, RB⟩ := (show OwnM wr.drew w2.heap.size (some ⟨g, 0, none⟩) n c vs (matF n (fwT D b i k)) from O6.out.below ⟨rfl, rfl, rfl, Nat.le_refl _, fun _ _ => rfl⟩).rowAt hlb
                    have c1 := RI.cell
                    have c2 := RI.at' k hlk
                    have c3 := RI.at' b hlb
                    have c4 := RB.cell
                    have c5 := RB.at' k hlk
                    rw [fwT_at] at c2
                    rw [fwT_col] at c3
                    rw [fwT_row] at c5
                    have b1 := IBB.out i k
                    have b2 := IBB.out i b
                    have b3 := IBB.out b k
                    have NX := Lib.hid (fun x y => fwT_next D b i k x y)
                    have FS := Lib.hid (show fwS D b i k = max (D i k) (min (D i b) (D b k)) from by unfold fwS; rw [if_neg hik])
                    obtain ⟨x, hx⟩ : ∃ x, D i k = x := ⟨_, rfl⟩
                    obtain ⟨y, hy⟩ : ∃ x, D i b = x := ⟨_, rfl⟩
                    obtain ⟨z, hz⟩ : ∃ x, D b k = x := ⟨_, rfl⟩
                    rw [hx, hy, hz] at FS
                    rw [hx] at c2 b1
                    rw [hy] at c3 b2
                    rw [hz] at c5 b3
                    obtain ⟨mn, hmn⟩ : ∃ m, (if z < y then z else y) = m := ⟨_, rfl⟩
                    obtain ⟨v, hv⟩ : ∃ v, (if x < mn then mn else x) = v := ⟨_, rfl⟩
                    have hm1 : 0 ≤ mn ∧ mn ≤ 432000 ∧ mn = min y z := by rw [← hmn]; split <;> omega
                    have hv1 : 0 ≤ v ∧ v ≤ 432000 ∧ v = max x mn := by rw [← hv]; split <;> omega
                    replace FS := Lib.hid (show fwS D b i k = v from by rw [FS.out]; omega)
                    have HM := Lib.hid hmn
                    have HV := Lib.hid hv
                    have fr := RI.free k
                    have PUT := Lib.hid (RI.put k v hlk (by omega) (by omega))
                    have gilt := RI.ge
                    have i0 : (0 : Int) ≤ (i : Int) := by omega
                    have i1 : (i : Int) < (n : Int) := by omega
                    have k0 : (0 : Int) ≤ (k : Int) := by omega
                    have k1 : (k : Int) < (n : Int) := by omega
                    have q0 : (0 : Int) ≤ (b : Int) := by omega
                    have q1 : (b : Int) < (n : Int) := by omega
                    have vb1 : -9223372036854775808 ≤ v := by omega
                    clear hx hy hz hv hmn hm1 hv1 RI RB hik
                    go_wp2_with fail
                    have hmn := HM.out
                    have hv := HV.out
                    refine wp_region_noPanic ?_
                    refine wp_region_R (inFirst (fun W => W.cell? ⟨g, i, none⟩ = some (.slice (some ⟨gi, 0, none⟩) n ci) ∧ W.cell? ⟨gi, k, none⟩ = some (.int .i64 x) ∧ W.cell? ⟨gi, b, none⟩ = some (.int .i64 y) ∧ W.cell? ⟨g, b, none⟩ = some (.slice (some ⟨gb, 0, none⟩) n cb) ∧ W.cell? ⟨gb, k, none⟩ = some (.int .i64 z)) 29) (by kernel_rfl) ?_
                    have hS : wr.drew.cell? ⟨g, i, none⟩ = some (.slice (some ⟨gi, 0, none⟩) n ci) ∧ wr.drew.cell? ⟨gi, k, none⟩ = some (.int .i64 x) ∧ wr.drew.cell? ⟨gi, b, none⟩ = some (.int .i64 y) ∧ wr.drew.cell? ⟨g, b, none⟩ = some (.slice (some ⟨gb, 0, none⟩) n cb) ∧ wr.drew.cell? ⟨gb, k, none⟩ = some (.int .i64 z) := ⟨c1, c2, c3, c4, c5⟩
                    refine anyR_take (i := 0) (.slice (some ⟨g, 0, none⟩) n c) rfl (by kernel_rfl) (by kernel_rfl) (by kernel_rfl) (by kernel_rfl) (fun _ _ _ h => h) (by assumption) ⟨by rfl, ?_⟩ ?_
                    · intro W hW
                      go_simp
                    try simp only [Act.put, List.setIfInBounds_toArray, List.set_cons_zero, List.set_cons_succ, List.getElem_toArray, List.getElem_cons_zero, List.getElem_cons_succ]
                    refine anyR_take (i := 1) (.int .i64 i) rfl (by kernel_rfl) (by kernel_rfl) (by kernel_rfl) (by kernel_rfl) (fun _ _ _ h => h) (by assumption) ⟨by rfl, ?_⟩ ?_
                    · intro W hW
                      go_simp
                    try simp only [Act.put, List.setIfInBounds_toArray, List.set_cons_zero, List.set_cons_succ, List.getElem_toArray, List.getElem_cons_zero, List.getElem_cons_succ]
                    refine anyR_take (i := 2) (.pointer (some ⟨g, i, none⟩)) rfl (by kernel_rfl) (by kernel_rfl) (by kernel_rfl) (by kernel_rfl) (fun _ _ _ h => h) (by assumption) ⟨by rfl, ?_⟩ ?_
                    · intro W hW
                      go_simp
                    try simp only [Act.put, List.setIfInBounds_toArray, List.set_cons_zero, List.set_cons_succ, List.getElem_toArray, List.getElem_cons_zero, List.getElem_cons_succ]
                    refine anyR_take (i := 3) (.slice (some ⟨gi, 0, none⟩) n ci) rfl (by kernel_rfl) (by kernel_rfl) (by kernel_rfl) (by kernel_rfl) (fun _ _ _ h => h) (by assumption) ⟨by rfl, ?_⟩ ?_
                    · intro W hW
                      go_simp
                    try simp only [Act.put, List.setIfInBounds_toArray, List.set_cons_zero, List.set_cons_succ, List.getElem_toArray, List.getElem_cons_zero, List.getElem_cons_succ]
                    refine anyR_take (i := 4) (.int .i64 k) rfl (by kernel_rfl) (by kernel_rfl) (by kernel_rfl) (by kernel_rfl) (fun _ _ _ h => h) (by assumption) ⟨by rfl, ?_⟩ ?_
                    · intro W hW
                      go_simp
                    try simp only [Act.put, List.setIfInBounds_toArray, List.set_cons_zero, List.set_cons_succ, List.getElem_toArray, List.getElem_cons_zero, List.getElem_cons_succ]
                    refine anyR_take (i := 5) (.slice (some ⟨g, 0, none⟩) n c) rfl (by kernel_rfl) (by kernel_rfl) (by kernel_rfl) (by kernel_rfl) (fun _ _ _ h => h) (by assumption) ⟨by rfl, ?_⟩ ?_
                    · intro W hW
                      go_simp
                    try simp only [Act.put, List.setIfInBounds_toArray, List.set_cons_zero, List.set_cons_succ, List.getElem_toArray, List.getElem_cons_zero, List.getElem_cons_succ]
                    refine anyR_take (i := 6) (.int .i64 i) rfl (by kernel_rfl) (by kernel_rfl) (by kernel_rfl) (by kernel_rfl) (fun _ _ _ h => h) (by assumption) ⟨by rfl, ?_⟩ ?_
                    · intro W hW
                      go_simp
                    try simp only [Act.put, List.setIfInBounds_toArray, List.set_cons_zero, List.set_cons_succ, List.getElem_toArray, List.getElem_cons_zero, List.getElem_cons_succ]
                    refine anyR_take (i := 7) (.pointer (some ⟨g, i, none⟩)) rfl (by kernel_rfl) (by kernel_rfl) (by kernel_rfl) (by kernel_rfl) (fun _ _ _ h => h) (by assumption) ⟨by rfl, ?_⟩ ?_
                    · intro W hW
                      go_simp
                    try simp only [Act.put, List.setIfInBounds_toArray, List.set_cons_zero, List.set_cons_succ, List.getElem_toArray, List.getElem_cons_zero, List.getElem_cons_succ]
                    refine anyR_take (i := 8) (.slice (some ⟨gi, 0, none⟩) n ci) rfl (by kernel_rfl) (by kernel_rfl) (by kernel_rfl) (by kernel_rfl) (fun _ _ _ h => h) (by assumption) ⟨by rfl, ?_⟩ ?_
                    · intro W hW
                      go_simp
                    try simp only [Act.put, List.setIfInBounds_toArray, List.set_cons_zero, List.set_cons_succ, List.getElem_toArray, List.getElem_cons_zero, List.getElem_cons_succ]
                    refine anyR_take (i := 9) (.int .i64 k) rfl (by kernel_rfl) (by kernel_rfl) (by kernel_rfl) (by kernel_rfl) (fun _ _ _ h => h) (by assumption) ⟨by rfl, ?_⟩ ?_
                    · intro W hW
                      go_simp
                    try simp only [Act.put, List.setIfInBounds_toArray, List.set_cons_zero, List.set_cons_succ, List.getElem_toArray, List.getElem_cons_zero, List.getElem_cons_succ]
                    refine anyR_take (i := 10) (.pointer (some ⟨gi, k, none⟩)) rfl (by kernel_rfl) (by kernel_rfl) (by kernel_rfl) (by kernel_rfl) (fun _ _ _ h => h) (by assumption) ⟨by rfl, ?_⟩ ?_
                    · intro W hW
                      go_simp
                    try simp only [Act.put, List.setIfInBounds_toArray, List.set_cons_zero, List.set_cons_succ, List.getElem_toArray, List.getElem_cons_zero, List.getElem_cons_succ]
                    refine anyR_take (i := 11) (.int .i64 x) rfl (by kernel_rfl) (by kernel_rfl) (by kernel_rfl) (by kernel_rfl) (fun _ _ _ h => h) (by assumption) ⟨by rfl, ?_⟩ ?_
                    · intro W hW
                      go_simp
                    try simp only [Act.put, List.setIfInBounds_toArray, List.set_cons_zero, List.set_cons_succ, List.getElem_toArray, List.getElem_cons_zero, List.getElem_cons_succ]
                    refine anyR_take (i := 12) (.slice (some ⟨g, 0, none⟩) n c) rfl (by kernel_rfl) (by kernel_rfl) (by kernel_rfl) (by kernel_rfl) (fun _ _ _ h => h) (by assumption) ⟨by rfl, ?_⟩ ?_
                    · intro W hW
                      go_simp
                    try simp only [Act.put, List.setIfInBounds_toArray, List.set_cons_zero, List.set_cons_succ, List.getElem_toArray, List.getElem_cons_zero, List.getElem_cons_succ]
                    refine anyR_take (i := 13) (.int .i64 i) rfl (by kernel_rfl) (by kernel_rfl) (by kernel_rfl) (by kernel_rfl) (fun _ _ _ h => h) (by assumption) ⟨by rfl, ?_⟩ ?_
                    · intro W hW
                      go_simp
                    try simp only [Act.put, List.setIfInBounds_toArray, List.set_cons_zero, List.set_cons_succ, List.getElem_toArray, List.getElem_cons_zero, List.getElem_cons_succ]
                    refine anyR_take (i := 14) (.pointer (some ⟨g, i, none⟩)) rfl (by kernel_rfl) (by kernel_rfl) (by kernel_rfl) (by kernel_rfl) (fun _ _ _ h => h) (by assumption) ⟨by rfl, ?_⟩ ?_
                    · intro W hW
                      go_simp
                    try simp only [Act.put, List.setIfInBounds_toArray, List.set_cons_zero, List.set_cons_succ, List.getElem_toArray, List.getElem_cons_zero, List.getElem_cons_succ]
                    refine anyR_take (i := 15) (.slice (some ⟨gi, 0, none⟩) n ci) rfl (by kernel_rfl) (by kernel_rfl) (by kernel_rfl) (by kernel_rfl) (fun _ _ _ h => h) (by assumption) ⟨by rfl, ?_⟩ ?_
                    · intro W hW
                      go_simp
                    try simp only [Act.put, List.setIfInBounds_toArray, List.set_cons_zero, List.set_cons_succ, List.getElem_toArray, List.getElem_cons_zero, List.getElem_cons_succ]
                    refine anyR_take (i := 16) (.int .i64 b) rfl (by kernel_rfl) (by kernel_rfl) (by kernel_rfl) (by kernel_rfl) (fun _ _ _ h => h) (by assumption) ⟨by rfl, ?_⟩ ?_
                    · intro W hW
                      go_simp
                    try simp only [Act.put, List.setIfInBounds_toArray, List.set_cons_zero, List.set_cons_succ, List.getElem_toArray, List.getElem_cons_zero, List.getElem_cons_succ]
                    refine anyR_take (i := 17) (.pointer (some ⟨gi, b, none⟩)) rfl (by kernel_rfl) (by kernel_rfl) (by kernel_rfl) (by kernel_rfl) (fun _ _ _ h => h) (by assumption) ⟨by rfl, ?_⟩ ?_
                    · intro W hW
                      go_simp
                    try simp only [Act.put, List.setIfInBounds_toArray, List.set_cons_zero, List.set_cons_succ, List.getElem_toArray, List.getElem_cons_zero, List.getElem_cons_succ]
                    refine anyR_take (i := 18) (.int .i64 y) rfl (by kernel_rfl) (by kernel_rfl) (by kernel_rfl) (by kernel_rfl) (fun _ _ _ h => h) (by assumption) ⟨by rfl, ?_⟩ ?_
                    · intro W hW
                      go_simp
                    try simp only [Act.put, List.setIfInBounds_toArray, List.set_cons_zero, List.set_cons_succ, List.getElem_toArray, List.getElem_cons_zero, List.getElem_cons_succ]
                    refine anyR_take (i := 19) (.slice (some ⟨g, 0, none⟩) n c) rfl (by kernel_rfl) (by kernel_rfl) (by kernel_rfl) (by kernel_rfl) (fun _ _ _ h => h) (by assumption) ⟨by rfl, ?_⟩ ?_
                    · intro W hW
                      go_simp
                    try simp only [Act.put, List.setIfInBounds_toArray, List.set_cons_zero, List.set_cons_succ, List.getElem_toArray, List.getElem_cons_zero, List.getElem_cons_succ]
                    refine anyR_take (i := 20) (.int .i64 b) rfl (by kernel_rfl) (by kernel_rfl) (by kernel_rfl) (by kernel_rfl) (fun _ _ _ h => h) (by assumption) ⟨by rfl, ?_⟩ ?_
                    · intro W hW
                      go_simp
                    try simp only [Act.put, List.setIfInBounds_toArray, List.set_cons_zero, List.set_cons_succ, List.getElem_toArray, List.getElem_cons_zero, List.getElem_cons_succ]
                    refine anyR_take (i := 21) (.pointer (some ⟨g, b, none⟩)) rfl (by kernel_rfl) (by kernel_rfl) (by kernel_rfl) (by kernel_rfl) (fun _ _ _ h => h) (by assumption) ⟨by rfl, ?_⟩ ?_
                    · intro W hW
                      go_simp
                    try simp only [Act.put, List.setIfInBounds_toArray, List.set_cons_zero, List.set_cons_succ, List.getElem_toArray, List.getElem_cons_zero, List.getElem_cons_succ]
                    refine anyR_take (i := 22) (.slice (some ⟨gb, 0, none⟩) n cb) rfl (by kernel_rfl) (by kernel_rfl) (by kernel_rfl) (by kernel_rfl) (fun _ _ _ h => h) (by assumption) ⟨by rfl, ?_⟩ ?_
                    · intro W hW
                      go_simp
                    try simp only [Act.put, List.setIfInBounds_toArray, List.set_cons_zero, List.set_cons_succ, List.getElem_toArray, List.getElem_cons_zero, List.getElem_cons_succ]
                    refine anyR_take (i := 23) (.int .i64 k) rfl (by kernel_rfl) (by kernel_rfl) (by kernel_rfl) (by kernel_rfl) (fun _ _ _ h => h) (by assumption) ⟨by rfl, ?_⟩ ?_
                    · intro W hW
                      go_simp
                    try simp only [Act.put, List.setIfInBounds_toArray, List.set_cons_zero, List.set_cons_succ, List.getElem_toArray, List.getElem_cons_zero, List.getElem_cons_succ]
                    refine anyR_take (i := 24) (.pointer (some ⟨gb, k, none⟩)) rfl (by kernel_rfl) (by kernel_rfl) (by kernel_rfl) (by kernel_rfl) (fun _ _ _ h => h) (by assumption) ⟨by rfl, ?_⟩ ?_
                    · intro W hW
                      go_simp
                    try simp only [Act.put, List.setIfInBounds_toArray, List.set_cons_zero, List.set_cons_succ, List.getElem_toArray, List.getElem_cons_zero, List.getElem_cons_succ]
                    refine anyR_take (i := 25) (.int .i64 z) rfl (by kernel_rfl) (by kernel_rfl) (by kernel_rfl) (by kernel_rfl) (fun _ _ _ h => h) (by assumption) ⟨by rfl, ?_⟩ ?_
                    · intro W hW
                      go_simp
                    try simp only [Act.put, List.setIfInBounds_toArray, List.set_cons_zero, List.set_cons_succ, List.getElem_toArray, List.getElem_cons_zero, List.getElem_cons_succ]
                    refine anyR_take (i := 26) (.int .i64 mn) rfl (by kernel_rfl) (by kernel_rfl) (by kernel_rfl) (by kernel_rfl) (fun _ _ _ h => h) (by assumption) ⟨by rfl, ?_⟩ ?_
                    · intro W hW
                      go_simp
                    try simp only [Act.put, List.setIfInBounds_toArray, List.set_cons_zero, List.set_cons_succ, List.getElem_toArray, List.getElem_cons_zero, List.getElem_cons_succ]
                    refine anyR_take (i := 27) (.int .i64 v) rfl (by kernel_rfl) (by kernel_rfl) (by kernel_rfl) (by kernel_rfl) (fun _ _ _ h => h) (by assumption) ⟨by rfl, ?_⟩ ?_
                    · intro W hW
                      go_simp
                    try simp only [Act.put, List.setIfInBounds_toArray, List.set_cons_zero, List.set_cons_succ, List.getElem_toArray, List.getElem_cons_zero, List.getElem_cons_succ]
                    refine anyR_take (i := 28) (.pointer (some ⟨gi, k, none⟩)) rfl (by kernel_rfl) (by kernel_rfl) (by kernel_rfl) (by kernel_rfl) (fun _ _ _ h => h) (by assumption) ⟨by rfl, ?_⟩ ?_
                    · intro W hW
                      go_simp
                    try simp only [Act.put, List.setIfInBounds_toArray, List.set_cons_zero, List.set_cons_succ, List.getElem_toArray, List.getElem_cons_zero, List.getElem_cons_succ]
                    refine anyR_one (i := 29) (by kernel_rfl) rfl ?_
                    intro K hK
                    go_simp
                    refine hK.out _ _ (fun h => absurd h (by decide)) ?_
                    clear hK K
                    try simp only [Act.put, List.setIfInBounds_toArray, List.set_cons_zero, List.set_cons_succ, List.getElem_toArray, List.getElem_cons_zero, List.getElem_cons_succ]
                    refine anyR_done (by kernel_rfl) ?_ _
                    refine NoPanic.normal ?_
                    clear hS c1 c3 c4 c5 hmn hv
                    go_wp2_with fail
                    go_roundw
                    case rel =>
                      refine ⟨k + 1, by omega, by go_num, ?_, (bel_trans B6.out (show Below wr.heap.size wr wr.drew from ⟨rfl, rfl, rfl, Nat.le_refl _, fun _ _ => rfl⟩)).setCell (by show _ ≤ gi; omega) _⟩
                      rw [matF_congr (K := fun a c => if a = i ∧ c = k then v else fwT D b i k a c) (fun a c _ _ => by rw [NX.out, FS.out])]
                      exact PUT.out
                    case measure => simp [intOf]; omega
                · obtain rfl : n = k := by omega
                  have d3 := decide_eq_false (show ¬ (n : Int) < (n : Int) by omega)
                  have O7 := Lib.hid (show OwnM wr w2.heap.size (some ⟨g, 0, none⟩) n c vs (matF n (fwT D b (i + 1) 0)) from by
                    rw [matF_congr (K := fwT D b i n) (fun x y _ hy => (fwT_line D b i n x y hy).symm)]
                    exact O6.out)
                  go_wp2_with fail
                  go_roundw
                  case rel => exact ⟨i + 1, by omega, by go_num, O7.out, B6.out⟩
                  case measure => simp [intOf]; omega
            · obtain rfl : n = i := by omega
              have d2 := decide_eq_false (show ¬ (n : Int) < (n : Int) by omega)
              have O6 := Lib.hid (show OwnM wr w2.heap.size (some ⟨g, 0, none⟩) n c vs (matF n (fw (ini P) (b + 1))) from by
                rw [matF_congr (K := fwT D b n 0) (fun x y hx _ => by rw [NXT.out, fwT_all D b n x y hx])]
                exact O5.out)
              go_wp2_with fail
              go_roundw
              case rel => exact ⟨b + 1, by omega, by go_num, O6.out, B5.out⟩
              case measure => simp [intOf]; omega
        · obtain rfl : n = b := by omega
          have d1 := decide_eq_false (show ¬ (n : Int) < (n : Int) by omega)
          have BE := Lib.hid (bel_trans BB.out B4.out)
          have OE := Lib.hid (O4.out.mono (b2 := w.heap.size) BB.out.size)
          go_wp2_with fail
          go_ret
          exact ⟨g, c, vs, rfl, by unfold strg; rw [HPP.out]; exact OE.out, BE.out⟩
end Go.Proofs.Ytikcbconfinibaa
